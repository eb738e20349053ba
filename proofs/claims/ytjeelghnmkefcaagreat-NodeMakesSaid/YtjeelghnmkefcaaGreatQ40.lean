/- Part of the proof: NrF NrG NrH. -/
import Derived.Test.YtjeelghnmkefcaaGreatQ02
import Derived.Test.YtjeelghnmkefcaaGreatQ22
import Derived.Test.YtjeelghnmkefcaaGreatQ37
import Derived.Test.YtjeelghnmkefcaaGreatQ38
import Derived.Test.YtjeelghnmkefcaaGreatQ39
set_option linter.unusedVariables false
set_option maxHeartbeats 16000000
set_option maxRecDepth 100000
namespace Go.Vk
open Go.RowKit Go.Proofs
open Tryz (prog)
section
variable {w:World} {tb m:Nat} {B:TB} {Z:Nat->Prop}
theorem az9 (h:Aa3 w tb m B Z) (a0:B.R.put.length<=16) (hn:B.R.nodes<=1024) (bs:List UInt8) (hb:B.R.nowN=aaZ bs) (a1:bs.length=512) (kind parent:Int) :
  Calls prog 50 #[↑tb,I kind,I parent] w (AwY w tb m (B.make bs kind parent) Z):=by
 have hq:=AaS.quiet h (AaA.refl _ w)
 by_cases h0:B.R.state=0
 ·by_cases ha:argE B.R.nodes kind parent=0
  ·exact aw9 h a0 hn bs hb a1 kind parent h0 ha
  ·refine (aoO h kind parent _ (.inr ⟨h0,ha,rfl⟩)).mono ?_
   rintro e w' ⟨rfl,rfl⟩
   have e:B.make bs kind parent=((0,argE B.R.nodes kind parent),B):=by unfold TB.make;rw [if_pos h0,if_neg ha]
   rw [e]
   exact ⟨rfl,hq⟩
 ·refine (aoO h kind parent _ (.inl ⟨h0,rfl⟩)).mono ?_
  rintro e w' ⟨rfl,rfl⟩
  have e:B.make bs kind parent=((0,B.R.state),B):=by unfold TB.make;rw [if_neg h0]
  rw [e]
  exact ⟨rfl,hq⟩
def TAll (w:World) (tb m:Nat) (r:(List Nat × Nat) × TB) (Z:Nat->Prop) (e:Ending) (w':World):Prop:=∃ v,e=U (.tuple #[v,I (r.1.2:Nat)])/\AaS w w' tb m r.2 Z/\AbV w' w.heap.size v r.1.1
theorem axD (h:Aa3 w tb m B Z) (hn:B.R.nodes<=1024) (kind:Int) (a7:B.R.state≠0∨kind<0∨3<kind) :
  Calls prog 25 #[↑tb,I kind] w (TAll w tb m (B.all kind) Z):=by
 obtain ⟨i0,hi,a3,a4,hz2⟩:=info_parts akI
 have hS:=adR h w (AaA.refl _ w)
 have a1:=AaA.refl NoF w
 obtain ⟨c0,c1⟩:=h.cells
 have hq:=λ w' (x:AaA NoF w w')=>AaS.quiet h x
 have a8:=λ j (h1:1<=j) (h2:j<=B.R.nodes)=>ahI h hn h1 h2
 unfold AjV at a8
 have a9:=λ (h0:B.R.state=0)=>afM h h0 6 (by decide)
 have a5:B.all kind=if B.R.state=0 then
  (if kind<0∨3<kind then (([],1),B) else if acT B.slot B.R.nodes=true then (([],6),B.thrown 6) else ((aeC B.slot kind B.R.nodes,0),B))
 else (([],B.R.state),B):=rfl
 have a6:=λ j=>alQ (B.slot j)
 have hP:∀ v l c B',B.all kind=((l,c),B')->∀ w',AaS w w' tb m B' Z->AbV w' w.heap.size v l->TAll w tb m (B.all kind) Z (U (.tuple #[v,I (c:Nat)])) w':=λ v l c B' e w' s r=>by rw [e];exact ⟨v,rfl,s,r⟩
 have a0:∀ w',AbV w' w.heap.size (.slice none 0 0) []:=λ w'=>World.ownsRow_nil _ _ _ _
 generalize TAll w tb m (B.all kind) Z=Post at *
 rw [a5] at hP
 clear a5
 generalize B.thrown 6=Bt at *
 generalize hsl:B.slot=sl at *
 generalize B.R.nodes=n at *
 generalize B.R.state=st at *
 clear h hsl
 by_cases h0:st=0
 ·subst h0
  by_cases a2:kind<0∨3<kind
  ·have hPP:=hP (.slice none 0 0) [] 1 B (by rw [if_pos rfl,if_pos a2]) w (hq w a1) (a0 w)
   clear hP a8 a9
   by_cases hk1:kind<0
   ·have b1:decide (kind<0)=true:=decide_eq_true hk1
    replace ⟨hi,a3,a4,hz2,hS,a1,hq,a6⟩:=yh8 hi a3 a4 hz2 hS a1 hq a6;replace ⟨a0,a2,hPP,hn,hk1⟩:=yh5 a0 a2 hPP hn hk1
    go_enter Tryz.func25,Tryz.ntmps25
    go_wp2_with fail
    refine hS.out.mono ?_
    rintro e w5 ⟨rfl,rfl⟩
    go_wp2
    exact hPP.out
   ·have b1:decide (kind<0)=false:=decide_eq_false hk1
    have b2:decide (3<kind)=true:=decide_eq_true (a2.resolve_left hk1)
    replace ⟨hi,a3,a4,hz2,hS,a1,hq,a6⟩:=yh8 hi a3 a4 hz2 hS a1 hq a6;replace ⟨a0,a2,hPP,hn⟩:=yh4 a0 a2 hPP hn;clear hk1
    go_enter Tryz.func25,Tryz.ntmps25
    go_wp2_with fail
    refine hS.out.mono ?_
    rintro e w5 ⟨rfl,rfl⟩
    go_wp2
    exact hPP.out
  ·exact absurd (a7.resolve_left (λ x=>x rfl)) a2
 ·have b0:((st:Int) != 0)=true:=by simpa using h0
  have hPP:=hP (.slice none 0 0) [] st B (if_neg h0) w (hq w a1) (a0 w)
  clear hP a8 a9
  replace ⟨hS,hPP,hn⟩:=yh3 hS hPP hn;clear hi a3 a4 hz2 a1 hq a6 a0 h0
  go_enter Tryz.func25,Tryz.ntmps25
  go_wp2_with fail
  refine hS.out.mono ?_
  rintro e w5 ⟨rfl,rfl⟩
  go_wp2
  exact hPP.out
theorem aAD (h:Aa3 w tb m B Z) (hn:B.R.nodes<=1024) (kind:Int) (af:B.R.state=0/\¬ (kind<0∨3<kind)) :
  Calls prog 25 #[↑tb,I kind] w (TAll w tb m (B.all kind) Z):=by
 obtain ⟨i0,hi,ag,ah,hz2⟩:=info_parts akI
 have hS:=adR h w (AaA.refl _ w)
 have am:=AaA.refl NoF w
 obtain ⟨c0,c1⟩:=h.cells
 have hq:=λ w' (x:AaA NoF w w')=>AaS.quiet h x
 have ac:=λ j (h1:1<=j) (h2:j<=B.R.nodes)=>ahI h hn h1 h2
 unfold AjV at ac
 have ao:=λ (h0:B.R.state=0)=>afM h h0 6 (by decide)
 have ad:B.all kind=if B.R.state=0 then
  (if kind<0∨3<kind then (([],1),B) else if acT B.slot B.R.nodes=true then (([],6),B.thrown 6) else ((aeC B.slot kind B.R.nodes,0),B))
 else (([],B.R.state),B):=rfl
 have ai:=λ j=>alQ (B.slot j)
 have hP:∀ v l c B',B.all kind=((l,c),B')->∀ w',AaS w w' tb m B' Z->AbV w' w.heap.size v l->TAll w tb m (B.all kind) Z (U (.tuple #[v,I (c:Nat)])) w':=λ v l c B' e w' s r=>by rw [e];exact ⟨v,rfl,s,r⟩
 have a7:∀ w',AbV w' w.heap.size (.slice none 0 0) []:=λ w'=>World.ownsRow_nil _ _ _ _
 generalize TAll w tb m (B.all kind) Z=Post at *
 rw [ad] at hP
 clear ad
 generalize B.thrown 6=Bt at *
 generalize hsl:B.slot=sl at *
 generalize B.R.nodes=n at *
 generalize B.R.state=st at *
 clear h hsl
 by_cases h0:st=0
 ·subst h0
  by_cases a9:kind<0∨3<kind
  ·exact absurd a9 af.2
  ·have b1:decide (kind<0)=false:=decide_eq_false (λ x=>a9 (.inl x))
   have b2:decide (3<kind)=false:=decide_eq_false (λ x=>a9 (.inr x))
   have a4:=ao rfl
   clear ao
   have aa:acT sl n=false->∀ v w',AaA NoF w w'->AbV w' w.heap.size v (aeC sl kind n)->Post (U (.tuple #[v,I 0])) w':=λ a v w' k r=>hP v _ 0 B (by rw [if_pos rfl,if_neg a9,if_neg (by rw [a];decide)]) w' (hq w' k) r
   have ab:acT sl n=true->∀ w',AaS w w' tb m Bt Z->Post (U (.tuple #[.slice none 0 0,I 6])) w':=λ a w' s=>hP _ [] 6 Bt (by rw [if_pos rfl,if_neg a9,if_pos a]) w' s (a7 w')
   have aj:=λ j=>am5 sl kind j
   have ak:=λ j=>aeZ sl j
   have hmo:=λ j (x:j<=n) (y:acT sl j=true)=>amM x y
   clear hP
   have av:=hn
   replace ⟨hi,ag,ah,hz2,hS,am,ai,a7⟩:=yh8 hi ag ah hz2 hS am ai a7;replace ⟨af,hn,ac,a4,aa,ab,aj,ak⟩:=yh8 af hn ac a4 aa ab aj ak;replace hmo:=hid hmo;clear hq a9
   go_enter Tryz.func25,Tryz.ntmps25
   go_wp2_with fail
   refine hS.out.mono ?_
   rintro e w5 ⟨rfl,rfl⟩
   clear hS
   go_wp2
   go_loopw [7,8] (λ v i wr=>∃ j:Nat,j<=n/\i=I ((j+1:Nat):Int)/\AbV wr w.heap.size v (aeC sl kind j)/\acT sl j=false/\AaA NoF w wr) (λ _ i _=>n+1 - (RowKit.intOf i).toNat)
   case atStart=>exact ⟨0,by omega,rfl,a7.out _,rfl,am.out⟩
   case round=>
    obtain ⟨j,aw,rfl,a5,hnb,hk2⟩:=hrel
    have d0:=hk2.cellF c0 (λ f=>f)
    have d1:=hk2.cellF c1 (λ f=>f)
    by_cases aq:j<n
    ·have ar:(j:Int)+1<=n:=by omega
     have hR:=ac.out (j+1) (by omega) (by omega) wr hk2
     have a8:=ai.out (j+1)
     have a0:=aj.out j
     have a2:=ak.out j
     have a6:=hmo.out (j+1) (by omega)
     rw [hnb] at a2
     generalize rdN (sl (j+1))=r at hR a8 a0 a2
     obtain ⟨cr,nr⟩:=r
     dsimp only at hR a8 a0 a2
     generalize an:nr.kind=nk at a0
     clear aj ak hmo ac ai
     replace ⟨hk2,a5,hR,a8,a0,a2,a6,an⟩:=yh8 hk2 a5 hR a8 a0 a2 a6 an;replace hnb:=hid hnb
     go_upto_region 10 with fail
     go_wp2_with fail
     refine hR.out.mono ?_
     rintro e w5 ⟨k5,rfl⟩
     clear hR
     go_upto_region 11 with (first
      | (refine aa0 rfl _ rfl _ _ (abI _) ?_;simp only [wz])
      | (refine aaL rfl 39 (.tmp 9) (.tmp 40) rfl w5.heap.size 0 39 (ndC Nd.zero) (ndC nr) rfl rfl (Blk.new _ _) (by rw [aaM a8.out];decide) (by rw [aaM a8.out];exact aaK) (abJ _) ?_;intro w6 b6 k6 au;clear au;rw [aa4 (by rw [aaM a8.out];rfl)] at b6))
     have kz:AaA NoF w5 w6:=((AaA.refl NoF w5).alloc (ndO Nd.zero)).fresh k6 (λ i e=>by omega)
     have kq:=k5.step kz
     have kD:=hk2.out.step kq
     have z6:=(b6.cell 0).trans (abF (n:=nr) a8.out).1
     rw [an.out] at z6
     have r6:=a5.out.keeps kq (λ _ _ f=>f)
     have d6:=kD.cellF c0 (λ f=>f)
     generalize w5.heap.size=nb at *
     clear k6 kz k5 kq d0 d1 a5
     by_cases h6:cr=6
     ·subst h6
      have ae:=a6.out (by rw [a2.out];rfl)
      have hPP:=ab.out ae
      clear ab aa
      replace ⟨kD,b6,r6,hPP⟩:=yh4 kD b6 r6 hPP;clear ae
      go_wp2_with fail
      refine (a4.out _ kD.out).mono ?_
      rintro e w7 ⟨rfl,s7⟩
      have hQ:=hPP.out _ (s7.mv kD.out)
      clear a4 hPP s7
      replace hQ:=hid hQ
      go_wp2
      exact hQ.out
     ·have b6':((cr:Int) == 6)=false:=by rw [aE2];simp;omega
      have a1:acT sl (j+1)=false:=by rw [a2.out,decide_eq_false h6];rfl
      by_cases hs:cr=0/\(kind=0∨nk=kind)
      ·rw [if_pos hs] at a0
       obtain ⟨rfl,al⟩:=hs
       have q1:(aeC sl kind j).length+1<=maxLen:=by have:=ajE sl kind j;unfold maxLen;omega
       have q2:((aeC sl kind j).length+1)*8<=140737488355328:=by have:=ajE sl kind j;omega
       have q3:w.heap.size<=(w6.alloc (.cells #[I ((j:Int)+1)] 3 (0,0))).heap.size:=by have:=kD.size;rw [aEI];omega
       clear a2 a6 h6 ab aa a4
       by_cases hk1:kind=0
       ·have b2:(kind == 0)=true:=by rw [beq_iff_eq];exact hk1
        replace ⟨kD,b6,r6,a1,al,hk1,q1,q2⟩:=yh8 kD b6 r6 a1 al hk1 q1 q2;replace ⟨q3,a0⟩:=yh2 q3 a0
        go_wp2_with (at_builtin;refine wpList_append_own _ rfl _ _ 48 rfl w.heap.size 3 i0 (I 0) 1 8 aj4 hi.out ag.out ah.out hz2.out rfl (by decide) _ _ _ rfl (World.ownsRow.alloc r6.out _) ⟨w6.heap.size,0,none⟩ 1 1 [I ((j:Int)+1)] rfl rfl ?c1 ?c2 q1.out q2.out q3.out ?_)
        case c1=>exact cell_one_new _ _ _
        case c2=>intro u hu;simp at hu;subst hu;rfl
        intro v' w7 hown' a3 hx
        have k7:=(kD.out.alloc (.cells #[I ((j:Int)+1)] 3 (0,0))).grown a3 (λ i e=>.inr (aaV r6.out i e))
        have r7:AbV w7 w.heap.size v' (aeC sl kind (j+1)):=by rw [a0.out];unfold AbV;rw [ahU,aEH];exact hown'
        clear hown' a3 hx
        replace ⟨k7,r7⟩:=yh2 k7 r7
        go_wp2
        exact ⟨⟨j+1,by omega,by go_num,r7.out,a1.out,k7.out⟩,by simp [RowKit.intOf];omega⟩
       ·have b2:(kind == 0)=false:=by rw [aE2];simp;exact hk1
        have b3:(nk == kind)=true:=by rw [beq_iff_eq];exact al.resolve_left hk1
        replace ⟨kD,b6,r6,a1,q1,q2,q3,a0⟩:=yh8 kD b6 r6 a1 q1 q2 q3 a0;clear al hk1
        go_wp2_with (at_builtin;refine wpList_append_own _ rfl _ _ 48 rfl w.heap.size 3 i0 (I 0) 1 8 aj4 hi.out ag.out ah.out hz2.out rfl (by decide) _ _ _ rfl (World.ownsRow.alloc r6.out _) ⟨w6.heap.size,0,none⟩ 1 1 [I ((j:Int)+1)] rfl rfl ?c1 ?c2 q1.out q2.out q3.out ?_)
        case c1=>exact cell_one_new _ _ _
        case c2=>intro u hu;simp at hu;subst hu;rfl
        intro v' w7 hown' a3 hx
        have k7:=(kD.out.alloc (.cells #[I ((j:Int)+1)] 3 (0,0))).grown a3 (λ i e=>.inr (aaV r6.out i e))
        have r7:AbV w7 w.heap.size v' (aeC sl kind (j+1)):=by rw [a0.out];unfold AbV;rw [ahU,aEH];exact hown'
        clear hown' a3 hx
        replace ⟨k7,r7⟩:=yh2 k7 r7
        go_wp2
        exact ⟨⟨j+1,by omega,by go_num,r7.out,a1.out,k7.out⟩,by simp [RowKit.intOf];omega⟩
      ·rw [if_neg hs,aE3] at a0
       rw [← a0.out] at r6
       clear a2 a6 ab aa a4
       by_cases ap:cr=0
       ·subst ap
        have b2:(kind == 0)=false:=by rw [aE2];simp;exact λ e=>hs ⟨rfl,.inl e⟩
        have b3:(nk == kind)=false:=by rw [aE2];simp;exact λ e=>hs ⟨rfl,.inr e⟩
        replace ⟨kD,b6,r6,a1,hs,h6,a0⟩:=yh7 kD b6 r6 a1 hs h6 a0
        go_wp2
        exact ⟨⟨j+1,by omega,by go_num,r6.out,a1.out,kD.out⟩,by simp [RowKit.intOf];omega⟩
       ·have b2:((cr:Int) == 0)=false:=by rw [aE2];simp;omega
        replace ⟨kD,r6,a1⟩:=yh3 kD r6 a1;clear b6 hs h6 ap a0
        go_wp2
        exact ⟨⟨j+1,by omega,by go_num,r6.out,a1.out,kD.out⟩,by simp [RowKit.intOf];omega⟩
    ·have ar:¬ (j:Int)+1<=n:=by omega
     obtain rfl:j=n:=by omega
     have hPP:=aa.out hnb _ _ hk2 a5
     clear hnb a5
     replace hPP:=hid hPP;clear hk2
     go_wp2
     exact hPP.out
 ·exact absurd af.1 h0
theorem aCT (h:Aa3 w tb m B Z) (hn:B.R.nodes<=1024) (kind:Int) :
  Calls prog 25 #[↑tb,I kind] w (TAll w tb m (B.all kind) Z):=by
 by_cases hg:B.R.state=0/\¬ (kind<0∨3<kind)
 ·exact aAD h hn kind hg
 ·refine axD h hn kind ?_
  by_cases h0:B.R.state=0
  ·exact .inr (aE7 λ x=>hg ⟨h0,x⟩)
  ·exact .inl h0
end
def ajP (B:TB) (q:Nat):Nat->List UInt8
 | 0=>[]
 | j+1=>ajP B q j++B.slot (4*q+j+1)
theorem amI (B:TB) (q:Nat):ajP B q 4=B.blk (q+2):=by
 simp [ajP,TB.blk]
section
variable {w:World} {tb m:Nat} {B:TB} {Z:Nat->Prop}
theorem akR (h:Aa3 w tb m B Z) (q:Nat) (hq:4*q+4<=B.R.nodes):∀ j,j<=4->(ajP B q j).length=128*j
 | 0,_=>rfl
 | j+1,hj=>by
  obtain ⟨hk,e⟩:=h.slotAt (k:=4*q+j+1) (by omega) (by omega)
  have ih:=akR h q hq j (by omega)
  obtain ⟨V,Z1,Z2,a,b⟩:=h
  have:=a.l8.2 _ (List.getElem_mem hk)
  rw [ajP,aEH,ih,e,this]
  omega
theorem Aa3.row (h:Aa3 w tb m B Z) (h0:0<B.R.nodes):∃ g cap,w.cell? ⟨tb,2,none⟩=some (.slice (some ⟨g,0,none⟩) B.R.nodes cap)/\∀ i,i<B.R.nodes->∃ gr cr,w.cell? ⟨g,i,none⟩=some (.slice (some ⟨gr,0,none⟩) 128 cr)/\(B.slot (i+1)).length=128/\∀ j u,((B.slot (i+1)).map Go.Vk.B)[j]? = some u->w.cell? ⟨gr,j,none⟩=some u:=by
 have a3:=λ i (hi:i<B.R.nodes)=>h.slotAt (k:=i+1) (by omega) (by omega)
 obtain ⟨V,Z1,Z2,a,b⟩:=h
 have hl:=a.lw.2
 obtain ⟨g,cap,hS,_,_⟩:=ab9 a.os.1 (by omega)
 have c2:=a.hm.cell 2
 rw [hS,hl] at c2
 simp at c2
 refine ⟨g,cap,c2,λ i hi=>?_⟩
 obtain ⟨hk,a0⟩:=a3 i hi
 rw [a0]
 have a4:=a.os.2.1
 have ho:=a.os.1
 rw [hS] at ho
 have hu:V.uS[i]? = some (V.uS[i]'(by omega)):=aEG (by omega)
 have a1:=a.os.2.2 i (by omega) _ hu
 have a2:=adS ho i _ hu
 have h8:=a.l8.2 _ (List.getElem_mem hk)
 simp only [Nat.add_sub_cancel] at h8 ⊢
 generalize V.uS[i]'(by omega)=u at a1 a2
 unfold Ab5 at a1
 obtain ⟨gr,cr,rfl,_,_⟩:=ab9 a1 (by omega)
 rw [h8] at a2
 exact ⟨gr,cr,a2,h8,λ j u hj=>adS a1 j u hj⟩
theorem azD (h:Aa3 w tb m B Z) (hn:B.R.nodes<=1024) (q:Nat) (hq:4*q+4<=B.R.nodes) :
  Calls prog 124 #[↑tb,I ((q:Int)+2)] w λ e w'=>∃ v,e=.returned v/\Ab5 w' w.heap.size v (B.blk (q+2))/\AaA NoF w w':=by
 obtain ⟨i0,hi,a4,a5,hz2⟩:=info_parts ak7
 have hk:=AaA.refl NoF w
 have hlen:=akR h q hq
 obtain ⟨g,cap,c2,a2⟩:=h.row (by omega)
 have a3:∀ j,ajP B q (j+1)=ajP B q j++B.slot (4*q+j+1):=λ j=>rfl
 have a6:ajP B q 0=[]:=rfl
 rw [← amI]
 generalize ajP B q=pre at *
 generalize B.slot=sl at *
 generalize B.R.nodes=n at *
 clear h
 have hq2:IntKind.i64.wrap ((q:Int)+2 - 2)=(q:Nat):=by rw [show (q:Int)+2 - 2=(q:Nat) by omega];exact aaO (by omega) (by omega)
 have ad:IntKind.i64.wrap (4*(q:Int))=((4*q:Nat):Int):=by rw [aaO (by omega) (by omega)];omega
 have a7:∀ W v,W.ownsRow w.heap.size 5 1 v (128*4) ((pre 4).map Go.Vk.B)->Ab5 W w.heap.size v (pre 4):=λ W v h=>by
  unfold Ab5;rw [hlen 4 (by omega)];exact h
 have ae:q<=1024:=by omega
 replace ⟨hi,a4,a5,hz2,hk,a2,a3,a6⟩:=yh8 hi a4 a5 hz2 hk a2 a3 a6;replace ⟨a7,hn⟩:=yh2 a7 hn;clear hlen
 go_enter Tryz.func124,Tryz.ntmps124
 go_wp2
 go_loopw [5,6] (λ v i wr=>∃ j:Nat,j<=4/\i=I j/\wr.ownsRow w.heap.size 5 1 v (128*j) ((pre j).map Go.Vk.B)/\AaA NoF w wr) (λ _ i _=>4 - (RowKit.intOf i).toNat)
 case atStart=>exact ⟨0,by omega,rfl,by rw [a6.out];exact World.ownsRow_nil _ _ _ _,hk.out⟩
 case round=>
  obtain ⟨j,af,rfl,hown,hk2⟩:=hrel
  by_cases ab:j<4
  ·have ac:(j:Int)<4:=by omega
   obtain ⟨gr,cr,c3,h8,h9⟩:=a2.out (4*q+j) (by omega)
   have a8:=a3.out j
   have e2:=hk2.cellF c2 (λ f=>f)
   have e3:=hk2.cellF c3 (λ f=>f)
   have a9:∀ i u,((sl (4*q+j+1)).map Go.Vk.B)[i]? = some u->wr.cell? ⟨gr,i,none⟩=some u:=λ i u x=>hk2.cellF (h9 i u x) (λ f=>f)
   have ag:IntKind.i64.wrap (((4*q:Nat):Int)+(j:Int))=((4*q+j:Nat):Int):=by rw [aaO (by omega) (by omega)];omega
   have ah:0<=((4*q+j:Nat):Int)/\((4*q+j:Nat):Int)<(n:Nat):=by omega
   generalize sl (4*q+j+1)=bs at *
   clear h9 c3
   generalize 4*q+j=r at *
   generalize 4*q=p at *
   replace ⟨hk2,hown,a8,h8,a9⟩:=yh5 hk2 hown a8 h8 a9;clear hq
   go_wp2_with (at_builtin;refine wpList_append_own _ rfl _ _ 40 rfl w.heap.size 5 i0 (.int .u8 0) 1 1 afL hi.out a4.out a5.out hz2.out rfl (by decide) _ _ _ rfl hown.out ⟨gr,0,none⟩ 128 cr (bs.map Go.Vk.B) rfl ?c0 ?c1 ?c2 ?c3 ?c4 ?c5 ?_)
   case c0=>rw [aEU,h8.out]
   case c1=>intro i u hi;have:=a9.out i u hi;have e:(⟨gr,0,none⟩:Addr).add i=⟨gr,i,none⟩:=by { unfold Addr.add;split<;>simp_all };rw [e];exact this
   case c2=>intro u hu;obtain ⟨x,_,rfl⟩:=List.mem_map.1 hu;rfl
   case c3=>unfold maxLen;omega
   case c4=>omega
   case c5=>exact hk2.out.size
   ·intro v' w1 a0 a1 hx
    have aa:=hk2.out.grown a1 (λ k hk=>.inr (aaV hown.out k hk))
    rw [← List.map_append,← a8.out,show 128*j+128=128*(j+1) by omega] at a0
    replace ⟨a0,aa⟩:=yh2 a0 aa;clear a1
    go_wp2
    exact ⟨⟨j+1,by omega,by go_num,a0.out,aa.out⟩,by simp [RowKit.intOf];omega⟩
  ·have ac:¬ (j:Int)<4:=by omega
   obtain rfl:j=4:=by omega
   replace ⟨hk2,hown⟩:=yh2 hk2 hown
   go_wp2
   go_ret
   exact ⟨u5,rfl,a7.out _ _ hown.out,hk2.out⟩
end
def setK (sl:List (List UInt8)) (q:Nat) (D:List UInt8):Nat->List (List UInt8)
 | 0=>sl
 | j+1=>(setK sl q D j).set (4*q+j) (acD D j)
section
variable {w w0:World} {tb m:Nat} {B:TB} {Z:Nat->Prop}
theorem Aa3.setS (h:Aa3 w0 tb m B Z) (k:AaA NoF w0 w) (q:Nat) (hq:q<B.R.nodes) (v:Value) (bs:List UInt8) (hb:bs.length=128) (hv:Ab5 w 0 v bs) (a1:∀ i,v.ownBlock=some i->w0.heap.size<=i) :
  ∃ g cap,w.cell? ⟨tb,2,none⟩=some (.slice (some ⟨g,0,none⟩) B.R.nodes cap)/\(∃ o,w.cell? ⟨g,q,none⟩=some o)/\w.frozen? ⟨g,q,none⟩=false/\AaS w0 (w.setCell ⟨g,q,none⟩ v) tb m { B with sl:=B.sl.set q bs } Z:=by
 obtain ⟨V,Z1,Z2,a0,b⟩:=h
 have a:=a0.keeps k (λ _ _ f=>f)
 have hl:=a.lw.2
 obtain ⟨g,cap,hS,_,_⟩:=ab9 a.os.1 (by omega)
 rw [hl] at hS
 have c2:=a.hm.cell 2
 rw [hS] at c2
 simp at c2
 obtain ⟨t8,k8,o8,f8⟩:=a.setS hS hl q hq v bs hb hv (λ i e z=>by have:=a1 i e;have:=a0.lt i (.inl z);omega)
 have hsz:(w.setCell ⟨g,q,none⟩ v).heap.size=w.heap.size:=aES ..
 refine ⟨g,cap,c2,o8,f8,⟨⟨_,_,_,t8,λ i z=>?_⟩,(k.mono (F:=λ _=>False) (G:=Z) λ _ _ f=>f.elim).trans k8 (λ i _ z=>b i (.inr z))⟩⟩
 rcases z with z|z|z
 ·exact .inl (b i (.inl z))
 ·exact .inl (b i (.inr z))
 ·have:=a1 i z;have:=ad1 hv z;exact .inr ⟨by omega,by omega⟩
theorem aoM (h:Aa3 w tb m B Z) (a0:B.R.put.length<=16) (b:Nat):∀ W,AaA NoF w W->Calls prog 189 #[↑m,I b] W λ e w'=>e=U (I (B.R.putsE b:Nat))/\AaS W w' tb m { B with R:=B.R.puts b } Z:=λ W kW=>by
 obtain ⟨V,Z1,Z2,a,c⟩:=h.keeps kW (λ _ _ f=>f)
 refine (am2 a.rf a0 b).mono ?_
 rintro e w' ⟨rfl,s⟩
 exact ⟨rfl,AaS.doc a c s (aeU _ _)⟩
theorem azJ {g:Nat} {bs:List UInt8} (h:Blk w g (aa2 5 bs)) (hl:bs.length=128):Ab5 w 0 (.slice ↑g 128 128) bs:=by
 have:=akQ (data:=bs) (rest:=[]) (k:=0) (n:=128) (by rw [aE3];exact h) hl rfl (by decide)
 exact this
theorem asL (D:List UInt8) (j:Nat):acD D j=(D.drop (128*j)).take 128:=rfl
theorem at4 (h:Aa3 w tb m B Z) (a5:B.R.put.length<=16) (hn:B.R.nodes<=1024) (q:Nat) (hq:4*q+4<=B.R.nodes) (gd:Nat) (D:List UInt8) (hD:D.length=512) (hg:Blk w gd (aaE D)) (ae:¬ Z gd) :
  Calls prog 130 #[↑tb,I ((q:Int)+2),.slice ↑gd 512 512] w (AjT w tb m (B.putRaw (q+2) D) Z):=by
 have hS:=adR h w (AaA.refl _ w)
 have af:=AaA.refl NoF w
 obtain ⟨c0,_⟩:=h.cells
 have hq':=λ w' (x:AaA NoF w w')=>AaS.quiet h x
 have hR:=azD h hn q hq
 have hPu:=aoM h a5 (q+2)
 have aa:=akR h q hq 4 (by omega)
 rw [amI] at aa
 have ak:=aeU B.R (q+2)
 have a2:∀ j,j<4->∀ W W' (s:AaS w W tb m ⟨B.R.puts (q+2),B.was,setK B.sl q D j⟩ Z) v,AaA NoF W W'->Ab5 W' 0 v (acD D j)->(∀ i,v.ownBlock=some i->W.heap.size<=i) ->
   ∃ g cap,W'.cell? ⟨tb,2,none⟩=some (.slice (some ⟨g,0,none⟩) B.R.nodes cap)/\(∃ o,W'.cell? ⟨g,4*q+j,none⟩=some o)/\W'.frozen? ⟨g,4*q+j,none⟩=false/\AaS w (W'.setCell ⟨g,4*q+j,none⟩ v) tb m ⟨B.R.puts (q+2),B.was,setK B.sl q D (j+1)⟩ Z:=λ j hj W W' s v k hv an=>by
  obtain ⟨g,cap,x1,x2,x3,x4⟩:=s.rep.setS k (4*q+j) (by show 4*q+j<(B.R.puts (q+2)).nodes;omega) v (acD D j) (ahL hD hj) hv an
  have al:W'.cell? ⟨tb,2,none⟩=some (.slice (some ⟨g,0,none⟩) (B.R.puts (q+2)).nodes cap):=x1
  rw [ak] at al
  exact ⟨g,cap,al,x2,x3,s.trans x4⟩
 have am:B.putRaw (q+2) D=if B.R.state=0 then
  (if B.blk (q+2)=D then (0,B)
   else (B.R.putsE (q+2),⟨B.R.puts (q+2),B.was,if B.R.putsE (q+2)=0 then setK B.sl q D 4 else B.sl⟩))
 else (B.R.state,B):=rfl
 have hP:∀ c B',B.putRaw (q+2) D=(c,B')->∀ w',AaS w w' tb m B' Z->AjT w tb m (B.putRaw (q+2) D) Z (U (I (c:Nat))) w':=λ c B' e w' s=>by rw [e];exact ⟨rfl,s⟩
 have ab:∀ W B',AaS w W tb m B' Z->Blk W gd (aaE D):=λ W B' s=>s.k.blk hg ae
 generalize AjT w tb m (B.putRaw (q+2) D) Z=Post at *
 rw [am] at hP
 clear am
 generalize B.R.state=st at *
 generalize B.R.nodes=n at *
 generalize ag:B.blk (q+2)=bk at *
 generalize B.R.putsE (q+2)=pe at *
 have a6:pe=0->∀ W,AaS w W tb m ⟨B.R.puts (q+2),B.was,setK B.sl q D 4⟩ Z->st=0->bk≠D->Post (U (I 0)) W:=λ a W s h0 ac=>hP 0 _ (by rw [if_pos h0,if_neg ac,a,if_pos rfl]) W s
 have a8:pe≠0->st=0->bk≠D->∀ W,AaS w W tb m { B with R:=B.R.puts (q+2) } Z->Post (U (I (pe:Nat))) W:=λ a h0 ac W s=>hP pe _ (by rw [if_pos h0,if_neg ac,if_neg a]) W s
 have a0:st=0->bk=D->∀ W,AaA NoF w W->Post (U (I 0)) W:=λ h0 he W k=>hP 0 B (by rw [if_pos h0,if_pos he]) W (hq' W k)
 have a6:pe=0->st=0->bk≠D->∀ W,AaS w W tb m ⟨B.R.puts (q+2),B.was,setK B.sl q D 4⟩ Z->Post (U (I 0)) W:=λ a h0 ac W s=>a6 a W s h0 ac
 have a3:st≠0->Post (U (I (st:Nat))) w:=λ h0=>hP st B (if_neg h0) w (hq' w af)
 have a1:∀ W,AaS w W tb m { B with R:=B.R.puts (q+2) } Z->AaS w W tb m ⟨B.R.puts (q+2),B.was,setK B.sl q D 0⟩ Z:=λ W s=>s
 have hsl:Ab8 w (.slice ↑gd 512 512) D:=⟨some ⟨gd,0,none⟩,512,by rw [hD],.inr ⟨gd,0,rfl,λ i hi=>by have:=hg.cell (0+i);simpa [aEG hi,Go.Vk.B] using this⟩⟩
 have a4:=λ W (k:AaA NoF w W)=>hsl.keeps k (λ _ _ f=>f)
 rw [show ((q+2:Nat):Int)=(q:Int)+2 by omega] at hPu
 have au:q<=1024:=by omega
 have hq2:IntKind.i64.wrap ((q:Int)+2 - 2)=(q:Nat):=by rw [show (q:Int)+2 - 2=(q:Nat) by omega];exact aaO (by omega) (by omega)
 have av:IntKind.i64.wrap (4*(q:Int))=((4*q:Nat):Int):=by rw [aaO (by omega) (by omega)];omega
 clear hP hsl h hq' ak
 by_cases h0:st=0
 ·subst h0
  replace ⟨hS,af,hR,hPu,aa,a2,ab,a6⟩:=yh8 hS af hR hPu aa a2 ab a6;replace ⟨a8,a0,a3,a1,a4,ag,hn,hD⟩:=yh8 a8 a0 a3 a1 a4 ag hn hD;replace ⟨hg,ae,a5⟩:=yh3 hg ae a5
  go_enter Tryz.func130,Tryz.ntmps130
  go_wp2_with fail
  refine hS.out.mono ?_
  rintro e w5 ⟨rfl,rfl⟩
  clear hS a3
  go_wp2_with fail
  refine hR.out.mono ?_
  rintro e w1 ⟨v,rfl,hv,k1⟩
  obtain ⟨pa,pc,rfl⟩:=acG hv
  have hZ:=atS w1 _ _ bk D hv.sl (a4.out w1 k1) (by rw [aa.out];decide) (by rw [hD.out];decide) (by rw [aa.out,hD.out])
  have d0:=k1.cellF c0 (λ f=>f)
  clear hR hv a4 c0
  replace ⟨k1,hZ⟩:=yh2 k1 hZ
  go_wp2_with fail
  refine hZ.out.mono ?_
  rintro e w2 ⟨rfl,m2,rfl⟩
  have k2:=k1.out.drewN m2
  clear hZ k1
  by_cases he:bk=D
  ·have hPP:=a0.out trivial he _ k2
   clear a0 a8 a6 a2 a1 hPu ab
   rw [decide_eq_true he]
   replace ⟨hPP,he,k2⟩:=yh3 hPP he k2
   go_wp2
   exact hPP.out
  ·have d2:(w1.drewN m2).cell? ↑tb=some ↑m:=d0
   rw [decide_eq_false he]
   clear a0 d0
   generalize w1.drewN m2=w2 at *
   replace ⟨he,k2⟩:=yh2 he k2
   go_wp2_with fail
   refine (hPu.out _ k2.out).mono ?_
   rintro e w3 ⟨rfl,s3⟩
   replace s3:=s3.mv k2.out
   clear hPu d2 k2
   by_cases ad:pe=0
   ·have a7:=a6.out ad trivial he.out
    clear a6
    subst ad
    have hs3:=a1.out _ s3
    clear a8 a1 s3
    replace ⟨hs3,a7⟩:=yh2 hs3 a7
    go_wp2
    go_loopw [8,9] (λ i _ wr=>∃ j:Nat,j<=4/\i=I j/\AaS w wr tb m ⟨B.R.puts (q+2),B.was,setK B.sl q D j⟩ Z) (λ i _ _=>4 - (RowKit.intOf i).toNat)
    case atStart=>exact ⟨0,by omega,rfl,hs3.out⟩
    case round=>
     obtain ⟨j,aw,rfl,hst⟩:=hrel
     clear hs3
     by_cases a9:j<4
     ·have ao:(j:Int)<4:=by omega
      have ah:=a2.out j a9 wr
      have ai:=ab.out wr _ hst
      have aj:lay (aaD 128) 0 ((D.drop (128*j)).take 128)=acD D j:=by
       have e:=ahL hD.out a9
       rw [← asL]
       unfold lay
       rw [List.take_zero,List.nil_append,List.drop_of_length_le (by rw [e,aaF];omega),aE3]
      have ax:=hD.out
      have ay:IntKind.i64.wrap (128*(j:Int))=((128*j:Nat):Int):=by rw [aaO (by omega) (by omega)];omega
      have hw2:IntKind.i64.wrap (((128*j:Nat):Int)+128)=((128*j+128:Nat):Int):=by rw [aaO (by omega) (by omega)];omega
      have az:IntKind.i64.wrap (((4*q:Nat):Int)+(j:Int))=((4*q+j:Nat):Int):=by rw [aaO (by omega) (by omega)];omega
      have aA:0<=((4*q+j:Nat):Int)/\((4*q+j:Nat):Int)<(n:Nat):=by omega
      have aB:0<=((128*j:Nat):Int)/\((128*j:Nat):Int)<=((128*j+128:Nat):Int)/\((128*j+128:Nat):Int)<=512:=by omega
      generalize ap:128*j=s at *
      generalize aq:4*q+j=r at *
      generalize 4*q=p at *
      have bz:=Blk.new wr (aaE (aaD 128))
      have kz:=(AaA.refl NoF wr).alloc (aaE (aaD 128))
      have gz:=kz.blk ai (λ f=>f)
      have ar:gd≠wr.heap.size:=by have:=ai.lt;omega
      clear a7
      replace ⟨hst,ah,aj,bz,kz,gz⟩:=yh6 hst ah aj bz kz gz;clear ai ap aq
      go_wp2_with fail
      refine (anT _).mono ?_
      rintro e w4 ⟨rfl,rfl⟩
      go_upto_region 13 with fail
      go_step
      have q1:0<=(s:Int)+128/\(s:Int)+128<=512:=by omega
      have q2:((s:Int)+128).toNat=s+128:=by omega
      iterate 7
       refine aaR rfl _ _ (by go_simp;first|exact ⟨rfl,rfl⟩|rfl) ?_
       simp only [wz]
      refine aaR rfl (.slice (some ⟨gd,s,none⟩) (s+128 - s) (512 - s)) (wr.alloc (aaE (aaD 128))) (by go_simp;intro hh;omega) ?_
      simp only [wz]
      refine ae4 rfl _ _ 40 40 rfl 5 afL amP 5 5 wr.heap.size 0 128 128 gd s (s+128 - s) (512 - s) rfl rfl (aaD 128) D bz.out gz.out (by rw [aaF];decide) (by omega) ?_
      intro w5 b5 k5 z5
      clear z5
      rw [show Nat.min (s+128 - s) 128=128 by rw [Nat.add_sub_cancel_left];rfl,aj.out] at b5
      obtain ⟨g,cap,x1,⟨o5,x2⟩,x3,x4⟩:=ah.out w5 hst.out (.slice ↑wr.heap.size 128 128) (kz.out.fresh k5 (λ i e=>by omega)) (azJ b5 (ahL hD.out a9)) (λ i e=>by have:wr.heap.size=i:=aEP e;omega)
      clear b5 k5
      replace x4:=hid x4
      go_wp2
      exact ⟨⟨j+1,by omega,by go_num,x4.out⟩,by simp [RowKit.intOf];omega⟩
     ·have ao:¬ (j:Int)<4:=by omega
      obtain rfl:j=4:=by omega
      have hPP:=a7.out _ hst
      clear hst
      replace hPP:=hid hPP
      go_wp2
      exact hPP.out
   ·have hPP:=a8.out ad trivial he.out _ s3
    have bc:((pe:Int) != 0)=true:=by simpa using ad
    clear a8 a6 a2 a1 ab s3
    replace hPP:=hid hPP;clear ad
    go_wp2
    exact hPP.out
 ·have bc:((st:Int) != 0)=true:=by simpa using h0
  have hPP:=a3 h0
  clear a8 a6 a2 a1 hPu ab a0 a3 a4 hR
  replace ⟨hS,hPP,hn⟩:=yh3 hS hPP hn;clear h0 af aa ag hD hg ae a5
  go_enter Tryz.func130,Tryz.ntmps130
  go_wp2_with fail
  refine hS.out.mono ?_
  rintro e w5 ⟨rfl,rfl⟩
  go_wp2
  exact hPP.out
end
end Go.Vk
