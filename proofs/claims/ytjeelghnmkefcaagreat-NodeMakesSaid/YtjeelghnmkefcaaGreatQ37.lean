/- Part of the proof: No4 Nr5 Nr7 Nr8 Nr9 NrA. -/
import Derived.Test.YtjeelghnmkefcaaGreatQ22
import Derived.Test.YtjeelghnmkefcaaGreatQ24
import Derived.Test.YtjeelghnmkefcaaGreatQ31
import Derived.Test.YtjeelghnmkefcaaGreatQ36
import Derived.StillTailTactics
import Derived.Deep.QuietTactic
import Derived.Maps.AppendAt
import Derived.Deep.RegionLaw
set_option linter.unusedVariables false
set_option maxHeartbeats 16000000
set_option maxRecDepth 100000
namespace Go.Vk
open Go.RowKit Go.Proofs
open Tryz (prog)
structure KdAt (w:World) (kb:Nat) (kind:Int) (lo:Nat) (v:Value) (l:List Nat):Prop where
 bk:Blk w kb (.cells #[I kind,v] 124 (0,0))
 row:AbV w lo v l
def selN (bs:List UInt8) (kind:Int):Prop:=(rdN bs).1=0/\(kind=0∨(rdN bs).2.kind=kind)
instance (bs:List UInt8) (kind:Int):Decidable (selN bs kind):=inferInstanceAs (Decidable (_/\_))
def AnN (w:World) (kb:Nat) (kind:Int) (lo:Nat) (v:Value) (l:List Nat) (bs:List UInt8) (k:Nat) (e:Ending) (w':World):Prop:=
 AaA (λ i=>i=kb∨v.ownBlock=some i) w w'/\((rdN bs).1≠6/\e=U (.tuple #[])/\(∃ v',KdAt w' kb kind lo v' (if selN bs kind then l++[k] else l)/\∀ i,v'.ownBlock=some i->v.ownBlock=some i∨w.heap.size<=i)∨(rdN bs).1=6/\e=thrE 6)
theorem KdAt.keeps {w w':World} {kb lo:Nat} {kind:Int} {v:Value} {l:List Nat} (h:KdAt w kb kind lo v l) {F:Nat->Prop} (k:AaA F w w') (h1:¬ F kb) (h2:∀ i,v.ownBlock=some i->¬ F i):KdAt w' kb kind lo v l:=⟨k.blk h.bk h1,h.row.keeps k h2⟩
section
variable {P:Program} {ops:Array Oper} {w:World} {Q:Act->Prop} {W:List Oper->Act->Prop} {op:Oper} {rest:List Oper} {a:Act}
theorem am1 (hW:W=wpStill P ops w Q) (hw:Region.wanted op (yielded ops a.tmps)=false) (h:W rest (a.put op.dst undef)):W (op :: rest) a:=by
 subst hW
 unfold wpStill
 rw [if_neg (by rw [hw];decide)]
 exact h
theorem aeT (hW:W=wpStill P ops w Q) (hw:Region.wanted op (yielded ops a.tmps)=true) (h:∀ K:Act->Prop,(∀ a,W rest a->K a)->op.still P a w K):W (op :: rest) a:=by
 subst hW
 exact wpStill_step λ K hK=>by rw [if_pos hw];exact h K hK
theorem ahK (hW:W=wpStill P ops w Q) (h:Q a):W [] a:=by
 subst hW
 exact h
end
theorem afN {P:Program} {ops:Array Oper} {o:Oper} {a:Act} {w:World} {K:Act->World->Prop} {Q:Exit->Act->World->Prop} {E:Prop} (a4:o.guard=none) (s x:Operand) (t:TypeId)
  (ho:o.op=.call { callee:=.builtin .append,args:=#[s,x],argTypes:=#[t,t] })
  (base:Nat) (e:TypeId) (i:TypeInfo) (z:Value) (size bytes:Nat) (ht:P.underlying t=some (.slice e)) (hi:P.info? e=some i) (hz:i.zero=some z)
  (a1:i.size=size) (a5:i.bytes=bytes) (a6:z.cells.size=size) (hsz:0<size)
  (v:Value) (n:Nat) (xs:List Value) (hs:a.eval s=v) (hown:w.ownsRow base e size v n xs)
  (ad:Addr) (m c:Nat) (news:List Value) (hx:a.eval x=.slice (some ad) m c) (hl:news.length=m*size) (a2:∀ j u,news[j]? = some u->w.cell? (ad.add j)=some u) (h1:∀ u∈news,u.oneCell'=true)
  (a7:n+m<=maxLen) (a0:(n+m)*bytes<=140737488355328) (a3:base<=w.heap.size)
  (h:∀ v' w',w'.ownsRow base e size v' (n+m) (xs++news)->w.grownBy w' v.ownBlock->(v'=.slice none 0 0↔v=.slice none 0 0/\m=0)->(v'.ownBlock=v.ownBlock∨v'.ownBlock=some w.heap.size)->K (a.put o.dst v') w') :
  if Region.wanted o (yielded ops a.tmps)=true then Oper.wp P o a w K Q else E:=by
 rw [if_pos (by simp [Region.wanted,a4])]
 obtain ⟨v',w',hr,h2,h3,h4,h5⟩:=run_append_own_at (P:=P) w base t o.type e i z size bytes ht hi hz a1 a5 a6 hsz v n xs hown ad m c news hl a2 h1 a7 a0 a3
 unfold Oper.wp execOp
 simp only [ho,resolve,invoke,builtin,Sem.run_bind,Sem.run_pure,Result.andThen_ok,List.map_toArray,List.map_cons,List.map_nil,hs,hx,hr]
 exact h v' w' h2 h3 h4 h5
section
variable {w:World} {kb lo:Nat} {kind:Int} {v:Value} {l:List Nat}
theorem aDI (hA:KdAt w kb kind lo v l) (k b g c:Nat) (src:List UInt8) (hg:Blk w g (aaE src)) (hs:512<=src.length) (h1:1<=k) (h2:k<=1024) (aB:l.length<=4096) (aC:lo<=w.heap.size) (aD:kb<lo) :
  Calls prog 64 #[↑kb,afX k b g (512+c)] w (AnN w kb kind lo v l (acD src (nix k)) k):=by
 have hD:=λ (w:World) (h:Blk w g (aaE src))=>aoU w k b g c src h hs h1 h2
 obtain ⟨bs,ar⟩:∃ bs,acD src (nix k)=bs:=⟨_,rfl⟩
 rw [ar] at hD ⊢
 have ak:¬ AcM bs->∀ w',AaA NoF w w'->AnN w kb kind lo v l bs k (thrE 6) w':=λ a w' kk=>by
  rcases ac7 bs with ⟨x,_⟩|⟨x,_⟩|⟨_,z⟩
  ·exact absurd x a
  ·exact absurd x a
  ·exact ⟨kk.mono λ _ _ f=>f.elim,.inr ⟨by rw [z],rfl⟩⟩
 have al:AcM bs->¬ selN bs kind->∀ w',AaA NoF w w'->AnN w kb kind lo v l bs k (U (.tuple #[])) w':=λ a hn w' kk=>by
  have h6:(rdN bs).1≠6:=by
   rcases ac7 bs with ⟨_,_,z⟩|⟨_,_,z⟩|⟨x,_⟩
   ·rw [z];exact (by decide:(70:Nat)≠6)
   ·rw [z];exact (by decide:(0:Nat)≠6)
   ·exact absurd a x
  exact ⟨kk.mono λ _ _ f=>f.elim,.inl ⟨h6,rfl,v,by rw [if_neg hn];exact hA.keeps kk (λ f=>f) (λ _ _ f=>f),λ i e=>.inl e⟩⟩
 have am:selN bs kind->∀ w' v',AaA (λ i=>i=kb∨v.ownBlock=some i) w w'->KdAt w' kb kind lo v' (l++[k])->(∀ i,v'.ownBlock=some i->v.ownBlock=some i∨w.heap.size<=i)->AnN w kb kind lo v l bs k (U (.tuple #[])) w':=λ hy w' v' kk hK hv=>
  ⟨kk,.inl ⟨by rw [hy.1];decide,rfl,v',by rw [if_pos hy];exact hK,hv⟩⟩
 generalize AnN w kb kind lo v l bs k=Post at *
 have a8:=(AaA.refl NoF w).alloc (ac5 k b g (512+c))
 have ad:=a8.blk hg (λ f=>f)
 have a2:=Blk.new w (ac5 k b g (512+c))
 have ae:=hA.keeps a8 (λ f=>f) (λ _ _ f=>f)
 have hn:=abZ bs
 obtain ⟨d,ud,hd⟩:=acJ
 obtain ⟨i0,hi,af,ag,hz2⟩:=info_parts akI
 unfold afX at *
 have ay:=hA.bk.lt
 replace ⟨hA,hD,ak,al,am,a8,ad,a2⟩:=yh8 hA hD ak al am a8 ad a2;replace ⟨ae,hn,hi,af,ag,hz2⟩:=yh6 ae hn hi af ag hz2;clear hg ar ud hd ay
 go_enter Tryz.func64,Tryz.ntmps64
 go_upto_region 1 with fail
 change Code.wp _ _ _ _ (w.alloc (ac5 k b g (512+c)))
 generalize w.alloc (ac5 k b g (512+c))=wA at *
 have s0:=a2.out.cell 0
 have s1:=a2.out.cell 1
 have s2:=a2.out.cell 2
 simp at s0 s1 s2
 go_wp2_with fail
 refine (hD.out _ ad.out).mono ?_
 rintro e w2 ⟨k2,hX⟩
 have kB:=a8.out.step k2
 rcases hX with ⟨a3,rfl⟩|⟨a3,rfl⟩
 rotate_left
 ·exact ⟨rfl,ak.out a3 _ kB⟩
 have sB:=k2.blk a2.out (λ f=>f)
 have A2:=ae.out.keeps k2 (λ f=>f) (λ _ _ f=>f)
 clear k2 s0 s1 s2 ad a8 a2 ae hD
 replace ⟨kB,sB,A2,a3⟩:=yh4 kB sB A2 a3
 dsimp only
 go_step
 refine aa0 rfl _ rfl _ _ (abI _) ?_
 simp only [wz]
 refine aaL rfl 39 (.tmp 4) (.tmp 6) rfl w2.heap.size 0 39 (ndC Nd.zero) (ndC (decN bs)) rfl rfl (Blk.new _ _) (by rw [aaM hn.out];decide) (by rw [aaM hn.out];exact aaK) (abJ _) ?_
 intro w3 a9 an _
 rw [aa4 (by rw [aaM hn.out];rfl)] at a9
 have z2:=kB.out.size
 have kC:=(kB.out.alloc (ndO Nd.zero)).fresh an (λ i e=>by omega)
 have kz:AaA NoF w2 w3:=((AaA.refl NoF w2).alloc (ndO Nd.zero)).fresh an (λ i e=>by omega)
 have sC:=kz.blk sB.out (λ f=>f)
 have A3:=A2.out.keeps kz (λ f=>f) (λ _ _ f=>f)
 have c0:=(a9.cell 0).trans (abF hn.out).1
 have e0:=A3.bk.cell 0
 have e1:=A3.bk.cell 1
 have ef:=A3.bk.frz
 simp at e0 e1
 have s0:=sC.cell 0
 simp at s0
 clear an kz kB sB A2
 generalize w2.heap.size=nb at *
 have c0d:w3.drew.cell? ↑nb=some (I (decN bs).kind):=c0
 have e0d:w3.drew.cell? ↑kb=some (I kind):=e0
 replace ⟨a9,kC,sC,A3⟩:=yh4 a9 kC sC A3;clear z2
 have ah:(decN bs).kind≠0->rdN bs=(0,decN bs):=λ x=>by
  rcases ac7 bs with ⟨_,y,_⟩|⟨_,_,z⟩|⟨y,_⟩
  ·exact absurd y x
  ·exact z
  ·exact absurd a3.out y
 have a4:(decN bs).kind=0->¬ selN bs kind:=λ x=>by
  rcases ac7 bs with ⟨_,_,z⟩|⟨_,y,_⟩|⟨y,_⟩
  ·rintro ⟨a,_⟩;rw [z] at a;cases a
  ·exact absurd x y
  ·exact absurd a3.out y
 have ai:=A3.out
 have fin0:¬ selN bs kind->∀ m,Post (U (.tuple #[])) (w3.drewN m):=λ x m=>al.out a3.out x _ (kC.out.step ((AaA.refl _ w3).drewN m))
 replace ⟨ah,a4,ai,fin0⟩:=yh4 ah a4 ai fin0
 generalize a5:(decN bs).kind=nk at *
 by_cases a1:nk=0
 ·have az:(nk != 0)=false:=by simpa using a1
  have hF:=fin0.out (a4.out a1)
  replace ⟨a1,hF,a5⟩:=yh3 a1 hF a5
  go_upto_region 2 with fail
  refine wp_region_still_lit (by kernel_rfl) (by kernel_rfl) ?_
  change wpStill _ _ w3.drew _ _ _
  generalize hW:wpStill _ _ w3.drew _=W
  iterate 4 (refine aeT hW.symm (by kernel_rfl) (λ K hK=>?_);go_simp;refine hK _ ?_;clear hK K)
  iterate 14 (refine am1 hW.symm (by kernel_rfl) ?_;simp only [wz])
  (refine aeT hW.symm (by kernel_rfl) (λ K hK=>?_);go_simp;refine hK _ ?_;clear hK K)
  refine ahK hW.symm ?_
  change Exit.then _ _ _ _ w3.drew
  go_wp2_with fail
  go_end0
  exact hF.out 1
 ·have az:(nk != 0)=true:=by simpa using a1
  by_cases hy:kind=0∨nk=kind
  ·have aa:selN bs kind:=by
    have:=ah.out (by exact a1)
    exact ⟨by rw [this],by rw [this];exact hy.imp id (λ e=>by rw [← e];exact a5)⟩
   have ab:AbV w3.drew.drew lo v l:=ai.out.row.keeps ((AaA.refl NoF w3).drewN 2) (λ _ _ f=>f)
   have a6:Blk w3.drew.drew kb (.cells #[I kind,v] 124 (0,0)):=ai.out.bk
   have k4:AaA NoF w w3.drew.drew:=kC.out.step ((AaA.refl _ w3).drewN 2)
   have e1d:w3.drew.drew.cell? ⟨kb,1,none⟩=some v:=e1
   have s0d:w3.drew.drew.cell? ↑w.heap.size=some (I k):=s0
   have ac:Blk w3.drew.drew w.heap.size (ac5 k b g (512+c)):=sC
   have au:=am.out aa
   have aj:∀ v' w5,World.ownsRow w5 lo 3 1 v' (l.length+1) (l.map natV++[I k])->(w3.drew.drew.alloc (.cells #[I k] 3 (0,0))).grownBy w5 v.ownBlock->(v'.ownBlock=v.ownBlock∨v'.ownBlock=some (w3.drew.drew.alloc (.cells #[I k] 3 (0,0))).heap.size) ->
     Post (U (.tuple #[])) (w5.setCell ⟨kb,1,none⟩ v')/\(∀ i,w5.frozen? ⟨kb,i,none⟩=false)/\w5.cell? ⟨kb,1,none⟩=some v/\w5.cell? ↑w.heap.size=some (I k)/\(w5.setCell ⟨kb,1,none⟩ v').cell? ↑w.heap.size=some (I k)/\∃ p n c,v'=.slice p n c:=by
    intro v' w5 hown' a0 a7
    have av:∀ i,v.ownBlock=some i->lo<=i:=λ i e=>aaV ab i e
    have ao:∀ i,v.ownBlock=some i->i<w.heap.size:=λ i e=>ad1 hA.out.row e
    have k5:=((k4.mono (G:=λ i=>i=kb∨v.ownBlock=some i) λ _ _ f=>f.elim).alloc (.cells #[I k] 3 (0,0))).grown a0 (λ i e=>.inl (.inr e))
    have b5:=(a6.alloc (.cells #[I k] 3 (0,0))).grown a0 (λ e=>by have:=av kb e.symm;omega)
    have c5:=(ac.alloc (.cells #[I k] 3 (0,0))).grown a0 (λ e=>by have:=ao _ e.symm;omega)
    have r5:AbV w5 lo v' (l++[k]):=by unfold AbV;rw [ahU,aEH];exact hown'
    have hv':∀ i,v'.ownBlock=some i->v.ownBlock=some i∨w.heap.size<=i:=λ i e=>by
     rcases a7 with h|h
     ·exact .inl (h ▸ e)
     ·have:w.heap.size<=w3.heap.size:=k4.size
      rw [h] at e
      simp at e
      exact .inr (by omega)
    have aA:∀ i,v'.ownBlock=some i->i≠kb:=λ i e e'=>by
     rcases hv' i e with h|h
     ·have:=av i h;omega
     ·omega
    have b6:=b5.setCell 1 v'
    have k6:=k5.setCell (p:=⟨kb,1,none⟩) (.inl (.inl rfl)) v'
    have r6:AbV (w5.setCell ⟨kb,1,none⟩ v') lo v' (l++[k]):=r5.keeps ((AaA.refl (· = kb) w5).setCell (p:=⟨kb,1,none⟩) (.inl rfl) v') (λ i e=>aA i e)
    have e5:=b5.cell 1
    have s5:=c5.cell 0
    have s6:=(c5.setCell_ne (p:=⟨kb,1,none⟩) (by show w.heap.size≠kb;omega) v').cell 0
    simp at e5 s5 s6
    refine ⟨au _ v' k6 ⟨b6,r6⟩ hv',λ i=>b5.frz i,e5,s5,s6,?_⟩
    rcases r5.shape with ⟨rfl,_⟩|⟨_,_,rfl,_⟩<;>exact ⟨_,_,_,rfl⟩
   replace ⟨ab,a6,k4,a5,aj,ac⟩:=yh6 ab a6 k4 a5 aj ac;clear au aa
   by_cases hk1:kind=0
   ·have aw:(kind == 0)=true:=by rw [beq_iff_eq];exact hk1
    replace ⟨a1,hk1,hy⟩:=yh3 a1 hk1 hy
    go_upto_region 2 with fail
    refine wp_region_still_lit (by kernel_rfl) (by kernel_rfl) ?_
    change wpStill _ _ w3.drew _ _ _
    generalize hW:wpStill _ _ w3.drew _=W
    iterate 10 (refine aeT hW.symm (by kernel_rfl) (λ K hK=>?_);go_simp;refine hK _ ?_;clear hK K)
    iterate 7 (refine am1 hW.symm (by kernel_rfl) ?_;simp only [wz])
    iterate 2 (refine aeT hW.symm (by kernel_rfl) (λ K hK=>?_);go_simp;refine hK _ ?_;clear hK K)
    refine ahK hW.symm ?_
    change Exit.then _ _ _ _ w3.drew
    generalize w3.drew=w3d at *
    go_upto_region 3 with fail
    have q1:Hid (l.length+1<=maxLen):=hid (by unfold maxLen;omega)
    have q2:Hid ((l.length+1)*8<=140737488355328):=hid (by omega)
    have q3:Hid (lo<=(w3d.drew.alloc (.cells #[I k] 3 (0,0))).heap.size):=hid (by have:w.heap.size<=w3d.drew.heap.size:=k4.out.size;rw [aEI];omega)
    have e1w:w3d.cell? ⟨kb,1,none⟩=some v:=e1d
    have ap:kb<w3d.heap.size:=a6.out.lt
    have aq:¬ kb=w3d.heap.size:=by omega
    have e1a:∀ o,(w3d.drew.alloc o).cell? ⟨kb,1,none⟩=some v:=λ o=>by have:=(a6.out.alloc o).cell 1;simpa using this
    have s0a:∀ o,(w3d.drew.alloc o).cell? ↑w.heap.size=some (I k):=λ o=>by have:=(ac.out.alloc o).cell 0;simpa [ac5] using this
    go_region_law (first|(refine afN rfl _ _ 48 rfl lo 3 i0 (I 0) 1 8 aj4 hi.out af.out ag.out hz2.out rfl (by decide) v l.length (l.map natV) rfl (World.ownsRow.alloc ab.out _) ⟨w3d.drew.heap.size,0,none⟩ 1 1 [I k] rfl rfl (cell_one_new _ _ _) (by intro u hu;simp at hu;subst hu;rfl) q1.out q2.out q3.out ?_;intro v' w5 hown' a0 hx a7;obtain ⟨hQ,f5,e5,s05,s06,pp,pn,pc,rfl⟩:=aj.out v' w5 hown' a0 a7;replace hQ:=hid hQ;clear hown' a0 hx a7))
    all_goals
     go_wp2_with fail
     go_end0
     exact hQ.out
   ·have aw:(kind == 0)=false:=by rw [aE2];simp;exact hk1
    have a9:(kind == nk)=true:=by rw [beq_iff_eq];exact (hy.resolve_left hk1).symm
    replace ⟨a1,hy⟩:=yh2 a1 hy;clear hk1
    go_upto_region 2 with fail
    refine wp_region_still_lit (by kernel_rfl) (by kernel_rfl) ?_
    change wpStill _ _ w3.drew _ _ _
    generalize hW:wpStill _ _ w3.drew _=W
    iterate 19 (refine aeT hW.symm (by kernel_rfl) (λ K hK=>?_);go_simp;refine hK _ ?_;clear hK K)
    refine ahK hW.symm ?_
    change Exit.then _ _ _ _ w3.drew
    generalize w3.drew=w3d at *
    go_upto_region 3 with fail
    have q1:Hid (l.length+1<=maxLen):=hid (by unfold maxLen;omega)
    have q2:Hid ((l.length+1)*8<=140737488355328):=hid (by omega)
    have q3:Hid (lo<=(w3d.drew.alloc (.cells #[I k] 3 (0,0))).heap.size):=hid (by have:w.heap.size<=w3d.drew.heap.size:=k4.out.size;rw [aEI];omega)
    have e1w:w3d.cell? ⟨kb,1,none⟩=some v:=e1d
    have ap:kb<w3d.heap.size:=a6.out.lt
    have aq:¬ kb=w3d.heap.size:=by omega
    have e1a:∀ o,(w3d.drew.alloc o).cell? ⟨kb,1,none⟩=some v:=λ o=>by have:=(a6.out.alloc o).cell 1;simpa using this
    have s0a:∀ o,(w3d.drew.alloc o).cell? ↑w.heap.size=some (I k):=λ o=>by have:=(ac.out.alloc o).cell 0;simpa [ac5] using this
    go_region_law (first|(refine afN rfl _ _ 48 rfl lo 3 i0 (I 0) 1 8 aj4 hi.out af.out ag.out hz2.out rfl (by decide) v l.length (l.map natV) rfl (World.ownsRow.alloc ab.out _) ⟨w3d.drew.heap.size,0,none⟩ 1 1 [I k] rfl rfl (cell_one_new _ _ _) (by intro u hu;simp at hu;subst hu;rfl) q1.out q2.out q3.out ?_;intro v' w5 hown' a0 hx a7;obtain ⟨hQ,f5,e5,s05,s06,pp,pn,pc,rfl⟩:=aj.out v' w5 hown' a0 a7;replace hQ:=hid hQ;clear hown' a0 hx a7))
    all_goals
     go_wp2_with fail
     go_end0
     exact hQ.out
  ·have ax:¬ selN bs kind:=λ x=>by
    have:=ah.out (by exact a1)
    rw [selN,this] at x
    exact hy (x.2.imp id (λ e=>by rw [← e];exact a5.symm))
   have aw:(kind == 0)=false:=by rw [aE2];simp;exact λ e=>hy (.inl e)
   have a9:(kind == nk)=false:=by rw [aE2];simp;exact λ e=>hy (.inr e.symm)
   have hF:=fin0.out ax
   replace hF:=hid hF;clear a1 a5 hy ax
   go_upto_region 2 with fail
   refine wp_region_still_lit (by kernel_rfl) (by kernel_rfl) ?_
   change wpStill _ _ w3.drew _ _ _
   generalize hW:wpStill _ _ w3.drew _=W
   iterate 19 (refine aeT hW.symm (by kernel_rfl) (λ K hK=>?_);go_simp;refine hK _ ?_;clear hK K)
   refine ahK hW.symm ?_
   change Exit.then _ _ _ _ w3.drew
   go_wp2_with fail
   go_end0
   exact hF.out _
end
section
variable {w:World} {tb m:Nat} {B:TB} {Z:Nat->Prop}
theorem ap8 (R:RP) (n:Int):(R.spoil n).nodes=R.nodes:=by
 unfold RP.spoil
 repeat' split
 all_goals rfl
theorem at1 (h:Aa3 w tb m B Z) (h0:B.R.state=0) (c:Nat) (hc:c<=100):Calls prog 67 #[↑tb,I c] w λ e w'=>e=U (I (c:Nat))/\AaS w w' tb m (B.thrown c) Z:=by
 have hq:=AaS.quiet h (AaA.refl _ w)
 obtain ⟨V,Z1,Z2,a,b⟩:=h
 have c0:=a.hm.cell 0
 simp at c0
 by_cases h6:c=6
 ·subst h6
  have hS:=axS a.rf 6
  have hE:B.R.spoilE 6=6:=by unfold RP.spoilE;rw [if_pos h0];rfl
  rw [hE] at hS
  have hst:∀ w',AdV w w' m (B.R.spoil 6) Z1->AaS w w' tb m (B.thrown 6) Z:=λ w' s=>AaS.doc a b s (ap8 _ _)
  clear hq
  replace ⟨hS,hst,a,b,h0⟩:=yh5 hS hst a b h0;clear hE
  go_enter Tryz.func67,Tryz.ntmps67
  go_wp2_with fail
  refine hS.out.mono ?_
  rintro e w5 ⟨rfl,s5⟩
  have hP:=hst.out _ s5
  clear s5 hS
  replace hP:=hid hP
  go_wp2_with fail
  go_ret
  exact ⟨rfl,hP.out⟩
 ·have b0:((c:Int) == 6)=false:=by rw [aE2];simp;omega
  have ht:B.thrown c=B:=if_neg h6
  rw [ht]
  clear c0
  replace hq:=hid hq;clear a b h0 ht h6
  go_enter Tryz.func67,Tryz.ntmps67
  go_wp2_with fail
  go_ret
  exact ⟨rfl,hq.out⟩
end
theorem AeQ.set {w:World} {g n cap:Nat} {ls:List (List UInt8)} {us:List Value} (h:AeQ w (.slice ↑g n cap) ls us) (hn:ls.length=n) (j:Nat) (u:Value) (bs:List UInt8) (hu:Ab5 w 0 u bs) :
  AeQ (w.setCell ⟨g,j,none⟩ u) (.slice ↑g n cap) (ls.set j bs) (us.set j u):=by
 have k:AaA (· = g) w (w.setCell ⟨g,j,none⟩ u):=(AaA.refl (· = g) w).setCell (p:=⟨g,j,none⟩) (.inl rfl) u
 have h1:=h.1
 rw [hn] at h1
 have far:∀ {y:Value} {l:List UInt8},Ab5 w 0 y l->Ab5 (w.setCell ⟨g,j,none⟩ u) 0 y l:=λ hy=>
  abE k hy (λ g' e e'=>akC h1 hy (by decide) (g:=g) rfl (e' ▸ e))
 refine ⟨?_,?_,λ i hi y hy=>?_⟩
 ·rw [aEV,hn]
  exact (World.ownsRow.stored (g:=g) h1 j u).1
 ·rw [aEV,aEV];exact h.2.1
 ·rw [aEV] at hi
  rw [List.getElem_set]
  by_cases e:j=i
  ·subst e
   rw [List.getElem?_set_self (by have:=h.2.1;omega)] at hy
   cases hy
   rw [if_pos rfl]
   exact far hu
  ·rw [aE1 e] at hy
   rw [if_neg e]
   exact far (h.2.2 i hi y hy)
theorem am2 {w:World} {m:Nat} {R:RP} {Z:Nat->Prop} (h:AcP w m R Z) (a0:R.put.length<=16) (b:Nat) :
  Calls prog 189 #[↑m,I b] w λ e w'=>e=U (I (R.putsE b:Nat))/\AdV w w' m (R.puts b) Z:=by
 obtain ⟨V,h⟩:=h
 refine (anW h a0 b).mono ?_
 rintro e w' ⟨v,rfl,a,k⟩
 exact ⟨rfl,⟨⟨_,a⟩,k.mono λ i _ x=>x.elim (λ e=>e ▸ h.zm) (λ e=>h.zp i e)⟩⟩
theorem aeU (R:RP) (b:Nat):(R.puts b).nodes=R.nodes:=by
 unfold RP.puts
 repeat' split
 all_goals rfl
def TPut (w:World) (tb m:Nat) (B:TB) (Z1 Z2:Nat->Prop) (k:Nat) (bs:List UInt8) (v:Value) (e:Ending) (w':World):Prop:=
 e=U (I ((B.put k bs).1:Nat))/\Aa3 w' tb m (B.put k bs).2 (λ i=>Zn w w' (λ i=>Z1 i∨Z2 i) i∨v.ownBlock=some i)/\AaA (λ i=>Z1 i∨Z2 i) w w'
section
variable {w:World} {tb m:Nat} {R:RP} {was sl:List (List UInt8)} {V:TabV} {Z1 Z2:Nat->Prop}
theorem AgX.setS (h:AgX w tb m R was sl V Z1 Z2) {g n cap:Nat} (hS:V.S=.slice ↑g n cap) (hn:sl.length=n) (q:Nat) (hq:q<n) (v:Value) (bs:List UInt8) (hb:bs.length=128) (hv:Ab5 w 0 v bs) (a3:∀ i,v.ownBlock=some i->¬ Z1 i) :
  AgX (w.setCell ⟨g,q,none⟩ v) tb m R was (sl.set q bs) { V with uS:=V.uS.set q v } Z1 (λ i=>Z2 i∨v.ownBlock=some i)/\AaA (λ i=>Z2 i) w (w.setCell ⟨g,q,none⟩ v)/\(∃ o,w.cell? ⟨g,q,none⟩=some o)/\w.frozen? ⟨g,q,none⟩=false:=by
 have a0:=h.os
 rw [hS] at a0
 have h1:=a0.1
 rw [hn] at h1
 have a2:Z2 g:=h.zs g (by rw [hS];rfl)
 have k:AaA (· = g) w (w.setCell ⟨g,q,none⟩ v):=(AaA.refl (· = g) w).setCell (p:=⟨g,q,none⟩) (.inl rfl) v
 have a1:=AeQ.set a0 hn q v bs hv
 have a4:=a0.2.1
 refine ⟨{ hm:=k.blk h.hm (λ e=>abG h1 h.hm (by decide) (e ▸ rfl)),rf:=h.rf.keeps k (λ i z e=>h.dj i z (e ▸ a2)),ow:=h.ow.far k (λ i e f=>h.ds (by rw [hS,e,f];rfl)) (λ u hu i e f=>?_),os:=by rw [hS];exact a1,zt:=.inl h.zt,zw:=λ i e=>.inl (h.zw i e),zs:=λ i e=>.inl (h.zs i e),zuw:=λ u hu i e=>.inl (h.zuw u hu i e),zus:=λ u hu i e=>?_,dj:=λ i z=>λ y=>y.elim (h.dj i z) (λ y=>a3 i y z),lt:=λ i z=>?_,ds:=h.ds,lw:=⟨h.lw.1,by rw [aEV];exact h.lw.2⟩,l8:=⟨h.l8.1,λ l hl=>?_⟩ },k.mono (λ i _ e=>e ▸ a2),⟨_,adS h1 q _ (aEG (by omega))⟩,World.ownsRow.frozenAt (g:=g) h1 q⟩
 ·obtain ⟨l,hl⟩:=h.ow.each hu
  exact akC h1 hl (by decide) (g:=g) rfl (f ▸ e)
 ·rcases List.mem_or_eq_of_mem_set hu with hu|hu
  ·exact .inl (h.zus u hu i e)
  ·subst hu;exact .inr e
 ·rw [aES]
  rcases z with z|z|z
  ·exact h.lt i (.inl z)
  ·exact h.lt i (.inr z)
  ·exact ad1 hv z
 ·rcases List.mem_or_eq_of_mem_set hl with hl|hl
  ·exact h.l8.2 l hl
  ·subst hl;exact hb
end
section
variable {w:World} {tb m:Nat} {B:TB} {V:TabV} {Z1 Z2:Nat->Prop}
theorem aCO (h:AgX w tb m B.R B.was B.sl V Z1 Z2) (a6:B.R.put.length<=16) (k:Nat) (h1:1<=k) (h2:k<=B.sl.length) (h3:B.sl.length<=1024) (bs:List UInt8) (v:Value) (hb:bs.length=128) (hv:Ab5 w 0 v bs) (a7:∀ i,v.ownBlock=some i->¬ Z1 i/\¬ Z2 i) :
  Calls prog 120 #[↑tb,I k,v] w (TPut w tb m B Z1 Z2 k bs v):=by
 obtain ⟨g,cap,hS,_,_⟩:=ab9 h.os.1 (by omega)
 have a8:=h.os.2.1
 have hu:V.uS[k - 1]? = some (V.uS[k - 1]'(by omega)):=aEG (by omega)
 have a4:=h.os.2.2 (k - 1) (by omega) _ hu
 have hl:=h.l8.2 (B.sl[k - 1]'(by omega)) (List.getElem_mem _)
 have ho:=h.os.1
 rw [hS] at ho
 have a5:=adS ho (k - 1) _ hu
 have a2:B.slot k=B.sl[k - 1]'(by omega):=by unfold TB.slot;rw [aEL,aEG (by omega)];rfl
 have a1:B.put k bs=if B.sl[k - 1]'(by omega)=bs then (0,B) else (B.R.putsE (nblk k),⟨B.R.puts (nblk k),B.was,if B.R.putsE (nblk k)=0 then B.sl.set (k - 1) bs else B.sl⟩):=by unfold TB.put;rw [a2]
 generalize V.uS[k - 1]'(by omega)=u at a4 a5
 generalize B.sl[k - 1]'(by omega)=os at a4 hl a1
 have a0:=atS w u v os bs a4.sl hv.sl (by omega) (by omega) (by omega)
 have hB:=λ w=>ak9 w k h1 (by omega)
 have hPu:=λ (W:World) (x:AaA NoF w W)=>am2 (h.rf.keeps x (λ _ _ f=>f)) a6 (nblk k)
 have c0:=h.hm.cell 0
 have c2:=h.hm.cell 2
 rw [hS] at c2
 simp at c0 c2
 obtain ⟨n,hn⟩:∃ n,B.sl.length=n:=⟨_,rfl⟩
 obtain ⟨q,rfl⟩:∃ q,k=q+1:=⟨k - 1,by omega⟩
 rw [hn] at c2 ho h2 h3
 rw [Nat.add_sub_cancel] at a5 a1
 obtain ⟨ua,uc,rfl⟩:=acG a4
 obtain ⟨va,vc,rfl⟩:=acG hv
 have ac:(q:Int)<(n:Nat):=by omega
 have ad:(0:Int)<=(q:Nat):=by omega
 have hq2:IntKind.i64.wrap ((q:Int)+1 - 1)=(q:Nat):=by rw [show (q:Int)+1 - 1=(q:Nat) by omega];exact aaO (by omega) (by omega)
 have hP0:os=bs->∀ w',AaA NoF w w'->TPut w tb m B Z1 Z2 (q+1) bs (.slice va bs.length vc) (U (I 0)) w':=λ e w' x=>by
  refine ⟨?_,?_,x.mono λ _ _ f=>f.elim⟩
  ·rw [a1,if_pos e];rfl
  ·rw [a1,if_pos e]
   exact ⟨V,Z1,Z2,h.keeps x (λ _ _ f=>f),λ i z=>.inl (.inl z)⟩
 rw [show ((q+1:Nat):Int)=(q:Int)+1 by omega] at hB ⊢
 by_cases he:os=bs
 ·rw [decide_eq_true he] at a0
  have hP:=hP0 he
  generalize TPut w tb m B Z1 Z2 (q+1) bs (.slice va bs.length vc)=Post at *
  rw [hl] at a0 a5
  rw [hb] at a0 ⊢
  clear hP0 he a1 a2 a4 hv hPu hB ho hu a8
  replace ⟨h,a0,hP,hl,hb⟩:=yh5 h a0 hP hl hb
  go_enter Tryz.func120,Tryz.ntmps120
  go_wp2_with fail
  refine a0.out.mono ?_
  rintro e w5 ⟨rfl,m5,rfl⟩
  have hPP:=hP.out _ ((AaA.refl NoF w).drewN m5)
  clear a0
  replace hPP:=hid hPP
  go_wp2_with fail
  exact hPP.out
 ·rw [decide_eq_false he] at a0
  rw [if_neg he] at a1
  generalize hPost:TPut w tb m B Z1 Z2 (q+1) bs (.slice va bs.length vc)=Post
  rw [hl] at a0 a5
  rw [hb] at a0 ⊢
  clear hP0 he a2 a4 ho hu a8
  replace ⟨h,a0,hb,a1,hv,hPu,hB,hPost⟩:=yh8 h a0 hb a1 hv hPu hB hPost;clear hl
  go_enter Tryz.func120,Tryz.ntmps120
  go_wp2_with fail
  refine a0.out.mono ?_
  rintro e w5 ⟨rfl,m5,rfl⟩
  have k5:=(AaA.refl NoF w).drewN m5
  have a3:=hPu.out _ k5.drew
  have d0:(w.drewN m5).cell? ↑tb=some ↑m:=c0
  clear a0 c0 c2 a5 hPu
  generalize w.drewN m5=w5 at *
  replace ⟨k5,a3⟩:=yh2 k5 a3
  go_upto_region 3 with fail
  go_region_with (first
   | (go_at_call 121;refine (hB.out _).mono ?_;rintro e w6 ⟨rfl,rfl⟩)
   | (go_at_call 189;refine a3.out.mono ?_;rintro e w7 ⟨rfl,s7⟩;replace s7:=hid s7))
  all_goals
   have h7:=(h.out.keeps (k5.out.drew) (λ _ _ f=>f)).doc s7.out (aeU _ _)
   have kW:AaA (λ i=>Z1 i∨Z2 i) w w7:=(k5.out.drew.mono (F:=λ _=>False) (G:=λ i=>Z1 i∨Z2 i) λ _ _ f=>f.elim).trans s7.out.k (λ i _ z=>.inl z)
   by_cases hz:B.R.putsE (nblk (q+1))=0
   ·have kv:=(k5.out.drew.mono (F:=λ _=>False) (G:=Z1) λ _ _ f=>f.elim).trans s7.out.k (λ i _ z=>z)
    have a9:Ab5 w7 0 (.slice va bs.length vc) bs:=abE kv hv.out (λ i e z=>(a7 i e).1 z)
    have aa:∀ i,(Value.slice va bs.length vc).ownBlock=some i->i<w.heap.size:=λ i e=>ad1 hv.out e
    have hS':=hS
    rw [hn] at hS'
    obtain ⟨t8,k8,⟨oc,c8⟩,f8⟩:=h7.setS hS' hn q (by omega) _ bs hb.out a9 (λ i e z=>z.elim (a7 i e).1 (λ z=>by have h1:=aa i e;have h2:=k5.out.drew.size;have h3:=z.1;omega))
    rw [hb.out] at t8 k8
    have d1:w7.cell? ⟨tb,2,none⟩=some (.slice ↑g n cap):=by
     have:=h7.hm.cell 2
     rw [hS'] at this
     exact this
    have hPP:Post (U (I 0)) (w7.setCell ⟨g,q,none⟩ (.slice va 128 vc)):=by
     rw [← hPost.out]
     refine ⟨by rw [a1.out,if_pos hz,hz];rfl,?_,kW.trans k8 (λ i _ z=>.inr z)⟩
     rw [a1.out]
     dsimp only
     rw [if_pos hz]
     refine ⟨_,_,_,t8,λ i z=>?_⟩
     rcases z with (z|z)|z|z
     ·exact .inl (.inl (.inl z))
     ·exact .inl (.inr ⟨aE4 k5.out.size z.1,by rw [aES];exact z.2⟩)
     ·exact .inl (.inl (.inr z))
     ·exact .inr (by rw [hb.out];exact z)
    have ab:((B.R.putsE (nblk (q+1)):Int) == 0)=true:=by simpa using hz
    rw [hz] at *
    generalize B.R.putsE (nblk (q+1))=cz at *
    clear s7
    replace ⟨h7,kW,hz,hPP⟩:=yh4 h7 kW hz hPP;clear t8 k8
    go_wp2_with fail
    exact hPP.out
   ·have hPP:Post (U (I (B.R.putsE (nblk (q+1)):Nat))) w7:=by
     rw [← hPost.out]
     refine ⟨by rw [a1.out],?_,kW⟩
     rw [a1.out]
     dsimp only
     rw [if_neg hz]
     refine ⟨V,_,Z2,h7,λ i z=>.inl ?_⟩
     rcases z with (z|z)|z
     ·exact .inl (.inl z)
     ·exact .inr ⟨aE4 k5.out.size z.1,z.2⟩
     ·exact .inl (.inr z)
    have ab:((B.R.putsE (nblk (q+1)):Int) == 0)=false:=by simpa using hz
    generalize B.R.putsE (nblk (q+1))=cz at *
    clear s7
    replace hPP:=hid hPP;clear h7 kW hz
    go_wp2_with fail
    exact hPP.out
end
def AjT (w:World) (tb m:Nat) (r:Nat × TB) (Z:Nat->Prop) (e:Ending) (w':World):Prop:=e=U (I (r.1:Nat))/\AaS w w' tb m r.2 Z
section
variable {w w1 w':World} {tb m:Nat} {B:TB} {Z:Nat->Prop} {e:Ending}
theorem Aa3.lt (h:Aa3 w tb m B Z):∃ Z':Nat->Prop,Aa3 w tb m B Z'/\(∀ i,Z' i->Z i)/\∀ i,Z' i->i<w.heap.size:=by
 obtain ⟨V,Z1,Z2,a,b⟩:=h
 exact ⟨λ i=>Z1 i∨Z2 i,⟨V,Z1,Z2,a,λ _ h=>h⟩,b,a.lt⟩
theorem arD (h:Aa3 w tb m B Z) (a0:B.R.put.length<=16) (k:Nat) (h1:1<=k) (h2:k<=B.sl.length) (h3:B.sl.length<=1024) (bs:List UInt8) (hb:bs.length=128) (W:World) (v:Value) (kW:AaA NoF w W) (hv:Ab5 W 0 v bs) (a1:∀ i,v.ownBlock=some i->w.heap.size<=i) :
  Calls prog 120 #[↑tb,I k,v] W (AjT w tb m (B.put k bs) Z):=by
 obtain ⟨V,Z1,Z2,a,b⟩:=h
 have a2:∀ i,v.ownBlock=some i->i<W.heap.size:=λ i e=>ad1 hv e
 refine (aCO (a.keeps kW (λ _ _ f=>f)) a0 k h1 h2 h3 bs v hb hv (λ i e=>?_)).mono ?_
 ·have x:=a1 i e
  exact ⟨λ z=>by have:=a.lt i (.inl z);omega,λ z=>by have:=a.lt i (.inr z);omega⟩
 ·rintro e w' ⟨rfl,y1,y2⟩
  have z0:=kW.size
  have z1:=y2.size
  refine ⟨rfl,y1.up λ i hi=>?_,(kW.mono (F:=λ _=>False) (G:=Z) λ _ _ f=>f.elim).trans y2 (λ i _ z=>b i z)⟩
  rcases hi with (hi|hi)|hi
  ·exact .inl (b i hi)
  ·exact .inr ⟨by omega,hi.2⟩
  ·have:=a2 i hi;have:=a1 i hi;exact .inr ⟨by omega,by omega⟩
theorem aCQ (h:Aa3 w tb m B Z) (a2:B.R.put.length<=16) (k:Nat) (h1:1<=k) (h2:k<=B.sl.length) (h3:B.sl.length<=1024) {n:Nd} (hn:n.ptr.length=12) (hf:Ac4 n) :
  Calls prog 116 #[↑tb,I k,ndV n] w (AjT w tb m (B.put k (encN n)) Z):=by
 have hP:=arD h a2 k h1 h2 h3 (encN n) (aeJ n hn)
 have hE:=λ w=>auV w hn
 have a0:=aeL w n
 have a1:Blk (w.alloc (ndO n)) w.heap.size (ndO n):=Blk.new w _
 obtain ⟨d,ud,hd⟩:=acJ
 have a3:=abR hn
 have hl:=aaM hn
 have hk:=(AaA.refl NoF w).alloc (ndO n)
 have a4:=aeJ n hn
 obtain ⟨⟨c,B'⟩,hr⟩:∃ r,B.put k (encN n)=r:=⟨_,rfl⟩
 rw [hr] at hP ⊢
 unfold ndV at a0 hE ⊢
 unfold ndO at a1 a0 hk
 generalize a6:ndC n=cl at *
 generalize a7:w.alloc (.cells cl.toArray 39 (0,0))=w1 at *
 clear h
 replace ⟨hP,hE,a0,a1,ud,hd,a3,hl⟩:=yh8 hP hE a0 a1 ud hd a3 hl;replace ⟨hk,a4,hf,hn⟩:=yh4 hk a4 hf hn;clear a6 a7 hr
 go_enter Tryz.func116,Tryz.ntmps116
 go_upto_region 0 with fail
 go_step
 refine aaY rfl 39 (.tmp 2) rfl _ _ (by exact a0.out) ?_
 go_upto_region 1 with fail
 go_step
 refine aaN rfl 39 (.tmp 5) rfl w.heap.size 0 39 cl 17 d rfl a1.out (by rw [hl.out];decide) ud.out hd.out aaK ?_
 rw [a3.out]
 go_wp2_with fail
 refine (hE.out _).mono ?_
 rintro e w2 ⟨k2,hX⟩
 rcases hX with ⟨_,g,hg,rfl,bg⟩|⟨a8,_⟩
 ·have hk2:=hk.out.step k2
  have hsz:=hk.out.size
  have a5:Ab5 w2 0 (.slice ↑g 128 128) (encN n):=by
   have:=akQ (data:=encN n) (rest:=[]) (k:=0) (n:=128) (by rw [aE3];exact bg) a4.out rfl (by decide)
   exact this
  have hPP:=hP.out w2 _ hk2 a5 (λ i e=>by have:g=i:=aEP e;omega)
  clear a5 bg hk2 k2
  replace hPP:=hid hPP;clear hsz hg
  go_wp2_with fail
  refine hPP.out.mono ?_
  rintro e w3 ⟨rfl,s⟩
  clear hPP
  replace s:=hid s
  go_wp2_with fail
  go_ret
  exact ⟨rfl,s.out⟩
 ·exact absurd hf.out a8
end
end Go.Vk
