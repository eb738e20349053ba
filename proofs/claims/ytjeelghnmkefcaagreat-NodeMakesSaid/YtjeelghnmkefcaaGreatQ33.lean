/- Part of the proof: Pc1 Cg1. -/
import Derived.Test.YtjeelghnmkefcaaGreatQ02
import Derived.Test.YtjeelghnmkefcaaGreatQ32
set_option linter.unusedVariables false
set_option maxHeartbeats 16000000
set_option maxRecDepth 100000
namespace Go.Vk
open Go.RowKit Go.Proofs
open Tryz (prog)
def aiX (ks:List Nat) (k:Nat):List UInt8:=aaB ks.length 2++(ks.take k).flatMap (λ b=>aaB b 4)
def ajO (ks:List Nat) (ov:Nat->Option (List UInt8)) (k:Nat):List UInt8:=aiX ks ks.length++(ks.take k).flatMap (λ b=>(ov b).getD [])
def amR (ks:List Nat) (ov:Nat->Option (List UInt8)):List UInt8:=ajO ks ov ks.length
theorem anC (ks:List Nat) (k:Nat) (h:k<ks.length):aiX ks (k+1)=aiX ks k++aaB ks[k] 4:=by
 unfold aiX
 rw [List.take_add_one,aEG h,Option.toList_some,List.flatMap_append,List.flatMap_singleton,aEQ]
theorem anH (ks:List Nat) (ov:Nat->Option (List UInt8)) (k:Nat) (h:k<ks.length):ajO ks ov (k+1)=ajO ks ov k++(ov ks[k]).getD []:=by
 unfold ajO
 rw [List.take_add_one,aEG h,Option.toList_some,List.flatMap_append,List.flatMap_singleton,aEQ]
theorem al7 (ks:List Nat):∀ k,k<=ks.length->(aiX ks k).length=2+4*k
 | 0,_=>by simp [aiX,aaC]
 | k+1,h=>by
  rw [anC ks k (by omega),aEH,al7 ks k (by omega),aaC];omega
theorem amH (ks:List Nat) (ov:Nat->Option (List UInt8)) (a0:∀ b∈ks,((ov b).getD []).length=512):∀ k,k<=ks.length->(ajO ks ov k).length=2+4*ks.length+512*k
 | 0,_=>by simp [ajO,al7]
 | k+1,h=>by
  rw [anH ks ov k (by omega),aEH,amH ks ov a0 k (by omega),a0 _ (List.getElem_mem _)];omega
structure ApX (w2:World) (v:Value) (xs:List UInt8) (wr:World):Prop where
 row:wr.ownsRow w2.heap.size 5 1 v xs.length (xs.map B)
 k:AaA NoF w2 wr
theorem ApX.step {w2 wr w1 w3:World} {v:Value} {xs ys:List UInt8} {g' cap' m:Nat} (h:ApX w2 v xs wr) (k1:AaA NoF wr w1) (hm:m=ys.length) (a0:w3.ownsRow 0 5 1 (.slice ↑g' (xs.length+m) cap') (xs.length+m) (xs.map B++ys.map B))
  (a2:w1.grownBy w3 v.ownBlock) (a3:v.ownBlock=some g'/\w3.heap.size=w1.heap.size∨g'=w1.heap.size):ApX w2 (.slice ↑g' (xs.length+m) cap') (xs++ys) w3:=by
 subst hm
 have a1:∀ g,v.ownBlock=some g->w2.heap.size<=g:=λ g e=>by
  rcases h.row.2 with ⟨rfl,_⟩|⟨g1,cap,cur,rfl,hb,_⟩
  ·cases e
  ·have:g1=g:=aEP e
   omega
 have s1:=h.k.size
 have s2:=k1.size
 refine ⟨?_,(h.k.step k1).grown a2 (λ g e=>.inr (a1 g e))⟩
 have:=au4 (lo':=w2.heap.size) a0 (by rcases a3 with ⟨e,_⟩|e;exact a1 g' e;omega)
 simpa using this
theorem aA4 (w2:World) (a b:UInt8):ApX w2 (.slice ↑w2.heap.size 2 2) [a,b] (w2.alloc (.cells #[B a,B b] 5 (0,0))):=by
 refine ⟨⟨rfl,.inr ⟨w2.heap.size,2,#[B a,B b],rfl,aEK _,Blk.new _ _,aEK 2,by unfold maxLen;decide,rfl,rfl⟩⟩,(AaA.refl _ _).alloc _⟩
section
variable {w:World} {m clock:Nat} {es:List OEnt}
theorem awL (wr:World) (T:TypeId) (l:List Value):∀ j u,l[j]? = some u->(wr.alloc (.cells l.toArray T (0,0))).cell? ((⟨wr.heap.size,0,none⟩:Addr).add j)=some u:=λ j u hj=>by
 rw [Addr.add_lit,(Blk.new wr (.cells l.toArray T (0,0))).cell,Nat.zero_add]
 simpa using hj
def AoD (w:World) (es:List OEnt) (e:Ending) (w':World):Prop:=∃ g cap ks,e=U (.slice (some ⟨g,0,none⟩) (amR ks (ovOf es)).length cap)/\(amR ks (ovOf es)).length<=cap/\ks.Perm (es.map (·.key))/\(amR ks (ovOf es)).length=2+516*es.length/\w.heap.size<=g/\g<w'.heap.size/\(∀ j (hj:j<(amR ks (ovOf es)).length),w'.cell? ⟨g,j,none⟩=some (B (amR ks (ovOf es))[j]))/\AaA NoF w w'
theorem ax5 {w2 W:World} {v:Value} {ks:List Nat} (k2:AaA NoF w w2) (hp:ks.Perm (es.map (·.key))) (hl:∀ e∈es,e.data.length=512) (hR:ApX w2 v (ajO ks (ovOf es) ks.length) W):AoD w es (.returned v) W:=by
 have a0:=hp.length_eq
 rw [aEU] at a0
 have a1:∀ b∈ks,((ovOf es b).getD []).length=512:=λ b hb=>by
  obtain ⟨e,he,a2⟩:=List.mem_map.1 (hp.mem_iff.1 hb)
  cases hf:es.find? (·.key == b) with
  | none=>have:=List.find?_eq_none.1 hf e he;simp [a2] at this
  | some q=>rw [adJ hf];exact hl q (aEN hf)
 have hlen:=amH ks (ovOf es) a1 ks.length (aEK _)
 have a3:(amR ks (ovOf es)).length=2+516*es.length:=by unfold amR;rw [hlen,a0];omega
 rcases hR.row.2 with ⟨_,h0⟩|⟨g,cap,cur,rfl,hb,hh,hn,rest⟩
 ·rw [hlen] at h0;omega
 ·refine ⟨g,cap,ks,rfl,hn,hp,a3,aE4 k2.size hb,?_,λ j hj=>?_,k2.step hR.k⟩
  ·exact (Array.getElem?_eq_some_iff.1 hh).1
  ·exact adS hR.row j (B (amR ks (ovOf es))[j]) (by rw [aEZ];unfold amR at hj ⊢;rw [aEG hj];rfl)
theorem aC6 (h:AcH w m es clock) (h1:1<=es.length) (hl:es.length<=16) (ag:∀ e∈es,e.key<65536):Calls prog 90 #[.map (some m)] w (AoD w es):=by
 obtain ⟨i0,hi,ad,ae,hz2⟩:=info_parts ak7
 have a7:=ao7 h (by omega)
 have hfin:=λ w2 W v ks k2 hp hR=>ax5 (w:=w) (w2:=w2) (W:=W) (v:=v) (ks:=ks) (es:=es) k2 hp (λ e he=>(h.ok e he).len) hR
 unfold Ai3 at a7
 generalize hPost:AoD w es=Post at *
 replace ⟨h,hi,ad,ae,hz2,a7,hfin,ag⟩:=yh8 h hi ad ae hz2 a7 hfin ag;clear hPost
 go_enter Tryz.func90,Tryz.ntmps90
 go_upto_region 2 with (go_at_call 172;refine a7.out.mono ?_;rintro e w2 ⟨v,ks,rfl,a4,ah,hp,k2⟩;obtain ⟨av,nv,cv,hv⟩:∃ a n c,v=.slice a n c:=(by obtain ⟨a,c,e⟩:=acG a4;exact ⟨a,_,c,e⟩);replace ⟨a4,ah,hp,k2⟩:=yh4 a4 ah hp k2;subst hv)
 have ap:ks.length=es.length:=by
  have h1:=hp.out.length_eq
  rw [aEU] at h1
  exact h1
 rcases a4.out.shape with ⟨_,rfl⟩|⟨gk,ck,hsl,_,_,aa⟩
 ·exact absurd ap (by simp;omega)
 ·obtain ⟨ar,hsn,au⟩:av=some ⟨gk,0,none⟩/\nv=ks.length/\cv=ck:=by injection hsl with e1 e2 e3;exact ⟨e1,e2,e3⟩
  subst ar au
  obtain ⟨n,hn⟩:∃ n,ks.length=n:=⟨_,rfl⟩
  rw [hn] at hsn
  subst hsn
  have aB:nv<=16/\ks.length<=16:=by omega
  have a3:∀ k (hk:k<ks.length),ks[k]<65536/\∃ e,es.find? (·.key == ks[k])=some e:=λ k hk=>by
   obtain ⟨e,he,a8⟩:=List.mem_map.1 (hp.out.mem_iff.1 (List.getElem_mem hk))
   refine ⟨by rw [← a8];exact ag.out e he,?_⟩
   cases hq:es.find? (·.key == ks[k]) with
   | some e=>exact ⟨e,rfl⟩
   | none=>have:=List.find?_eq_none.1 hq e he;simp [a8] at this
  have aC:IntKind.u8.wrap ((nv:Nat):Int)=((aa9 nv 0).toNat:Nat):=by rw [abU,IntKind.wrap_u8'];simp
  have aD:IntKind.u8.wrap (((nv:Nat):Int) / 256)=((aa9 nv 1).toNat:Nat):=by rw [abU,IntKind.wrap_u8'];omega
  have hst:ApX w2 (.slice ↑w2.heap.size 2 2) (aiX ks 0) (w2.alloc (.cells #[B (aa9 nv 0),B (aa9 nv 1)] 5 (0,0))):=by
   have e:aiX ks 0=[aa9 nv 0,aa9 nv 1]:=by unfold aiX;rw [hn];rfl
   rw [e];exact aA4 _ _ _
  have ai:=amH ks (ovOf es) (λ b hb=>by
   obtain ⟨j,hj,e⟩:=List.getElem_of_mem hb
   obtain ⟨_,q,hq⟩:=a3 j hj
   rw [e] at hq
   rw [adJ hq];exact (h.out.ok q (aEN hq)).len)
  have aj:=λ W v=>hfin.out w2 W v ks k2.out hp.out
  have ak:∀ W,AaA NoF w2 W->AcH W m es clock:=λ W k=>h.out.keeps (k2.out.step k) (λ _ _ f=>f)
  unfold B at hst
  clear hfin hsl
  replace ⟨hst,aj,ak,ai,a3,hn,aa⟩:=yh7 hst aj ak ai a3 hn aa;clear a4 ah hp k2 ap
  go_wp2
  go_loopw [4,21] (λ v i wr=>∃ k:Nat,k<=nv/\i=I k/\ApX w2 v (aiX ks k) wr) (λ _ i _=>nv - (RowKit.intOf i).toNat)
  case atStart=>exact ⟨0,by omega,rfl,hst.out⟩
  case round=>
   obtain ⟨k,hk1,rfl,hR⟩:=hrel
   clear hst
   by_cases al:k<nv
   ·have af:(k:Int)<nv:=by omega
    have aw:0<=(k:Int)/\(k:Int)<(nv:Nat):=by omega
    have a9:k<ks.length:=by rw [hn.out];exact al
    have ax:=hR.k.cellF (aa.out k a9) (λ f=>f)
    have hsn:=anC ks k a9
    have am:=al7 ks k (by omega)
    have ay:=(a3.out k a9).1
    generalize ks[k]=b at *
    have aE:IntKind.u8.wrap ((b:Nat):Int)=((aa9 b 0).toNat:Nat):=by rw [abU,IntKind.wrap_u8'];simp
    have aF:IntKind.u8.wrap (((b:Nat):Int) / 256)=((aa9 b 1).toNat:Nat):=by rw [abU,IntKind.wrap_u8'];omega
    have hw2:IntKind.u8.wrap (((b:Nat):Int) / 65536)=((aa9 b 2).toNat:Nat):=by rw [abU,IntKind.wrap_u8'];omega
    have aG:IntKind.u8.wrap (((b:Nat):Int) / 16777216)=((aa9 b 3).toNat:Nat):=by rw [abU,IntKind.wrap_u8'];omega
    have a0:=λ w3 g' cap'=>hR.step (w1:=wr.alloc (.cells #[B (aa9 b 0),B (aa9 b 1),B (aa9 b 2),B (aa9 b 3)] 5 (0,0))) (w3:=w3) (ys:=aaB b 4) (g':=g') (cap':=cap') (m:=4) ((AaA.refl _ _).alloc _) (by rw [aaC])
    rw [← hsn] at a0
    have a1:=aeG (lo':=0) hR.row (aEY _)
    have aq:(aaB b 4).map B=[B (aa9 b 0),B (aa9 b 1),B (aa9 b 2),B (aa9 b 3)]:=rfl
    rw [aq] at a0
    have az:(aiX ks k).length<=66:=by omega
    generalize (aiX ks k).length=hlx at *
    generalize aiX ks k=cur at *
    generalize hc2:aiX ks (k+1)=cur2 at *
    replace hc2:=hid hc2
    generalize aa9 b 0=y0 at *
    generalize aa9 b 1=y1 at *
    generalize aa9 b 2=y2 at *
    generalize aa9 b 3=y3 at *
    clear aq aa a3 hsn am
    unfold B at a0
    replace ⟨hR,a0⟩:=yh2 hR a0
    go_wp2_with (at_builtin;refine ae1 rfl _ _ 40 rfl 5 i0 (.int .u8 0) 1 1 afL hi.out ad.out ae.out hz2.out rfl (by decide) _ _ _ rfl (a1.alloc _) ⟨wr.heap.size,0,none⟩ 4 4 [.int .u8 (y0.toNat:Nat),.int .u8 (y1.toNat:Nat),.int .u8 (y2.toNat:Nat),.int .u8 (y3.toNat:Nat)] rfl rfl ?c1 ?c2 (by omega) ?c3 ?c4 ?_)
    case c1=>
     exact awL _ _ _
    case c2=>intro u hu;simp at hu;rcases hu with rfl|rfl|rfl|rfl<;>rfl
    case c3=>unfold maxLen;omega
    case c4=>omega
    intro g' cap' w3 a2 a5 ab
    have hF:=a0.out w3 g' cap' a2 a5 (by rw [aEI];exact ab)
    clear a2 a5 ab a1
    replace hF:=hid hF
    go_wp2
    exact ⟨⟨k+1,by omega,by go_num,by rw [hc2.out];exact hF.out⟩,by simp [RowKit.intOf];omega⟩
   ·have af:¬ (k:Int)<nv:=by omega
    have a8:k=ks.length:=by rw [hn.out];omega
    have e0:aiX ks k=ajO ks (ovOf es) 0:=by rw [a8];simp [ajO]
    have hR0:=hR
    rw [e0] at hR0
    clear hR a8 e0
    replace hR0:=hid hR0
    go_wp2
    go_loopw [4,42] (λ v i wr=>∃ k:Nat,k<=nv/\i=I k/\ApX w2 v (ajO ks (ovOf es) k) wr) (λ _ i _=>nv - (RowKit.intOf i).toNat)
    case atStart=>exact ⟨0,by omega,rfl,hR0.out⟩
    case round=>
     clear af hR0
     obtain ⟨k,hk1,rfl,hR⟩:=hrel
     by_cases al:k<nv
     ·have af:(k:Int)<nv:=by omega
      have aw:0<=(k:Int)/\(k:Int)<(nv:Nat):=by omega
      have a9:k<ks.length:=by rw [hn.out];exact al
      have ax:=hR.k.cellF (aa.out k a9) (λ f=>f)
      obtain ⟨ay,e,hf⟩:=a3.out k a9
      have hM:=ak.out wr hR.k
      have aA:=hM.look1 hf
      have ac:=hM.ok e (aEN hf)
      have hsn:=anH ks (ovOf es) k a9
      rw [adJ hf] at hsn
      have am:=ai.out k (by omega)
      generalize ks[k]=b at *
      have a0:=λ w3 g' cap'=>hR.step (w1:=wr) (w3:=w3) (ys:=e.data) (g':=g') (cap':=cap') (m:=512) (AaA.refl _ _) ac.len.symm
      rw [show (some e.data).getD []=e.data from rfl] at hsn
      rw [← hsn] at a0
      have a1:=aeG (lo':=0) hR.row (aEY _)
      have a6:∀ (j:Nat) (u:Value),(e.data.map B)[j]? = some u->wr.cell? ((⟨e.blk,0,none⟩:Addr).add j)=some u:=by
       have:=af8 (T:=5) ac.blk 0 512
       rw [aER,aE0 ac.len] at this
       exact this
      have an:(e.data.map B).length=512*1:=by rw [aEU,ac.len]
      have ao:∀ u∈e.data.map B,u.oneCell'=true:=Ap3 _
      have az:(ajO ks (ovOf es) k).length<=9000:=by omega
      unfold OEnt.val at aA
      generalize (ajO ks (ovOf es) k).length=hlx at *
      generalize ajO ks (ovOf es) k=cur at *
      generalize hc2:ajO ks (ovOf es) (k+1)=cur2 at *
      replace hc2:=hid hc2
      generalize e.data.map B=news at *
      generalize e.cap=ec at *
      generalize e.blk=eb at *
      clear aa a3 hsn am ac hM
      replace ⟨hR,a0,a6,an,ao⟩:=yh5 hR a0 a6 an ao;clear hf
      go_wp2_with (at_builtin;refine ae1 rfl _ _ 40 rfl 5 i0 (.int .u8 0) 1 1 afL hi.out ad.out ae.out hz2.out rfl (by decide) _ _ _ rfl a1 ⟨eb,0,none⟩ 512 ec news rfl an.out a6.out ao.out (by omega) ?c3 ?c4 ?_)
      case c3=>unfold maxLen;omega
      case c4=>omega
      intro g' cap' w3 a2 a5 ab
      have hF:=a0.out w3 g' cap' a2 a5 ab
      clear a2 a5 ab a1
      replace hF:=hid hF
      go_wp2
      exact ⟨⟨k+1,by omega,by go_num,by rw [hc2.out];exact hF.out⟩,by simp [RowKit.intOf];omega⟩
     ·have af:¬ (k:Int)<nv:=by omega
      have a8:k=ks.length:=by rw [hn.out];omega
      rw [a8] at hR
      have hF:=aj.out _ _ hR
      clear a8
      replace hF:=hid hF;clear hR
      go_wp2
      exact hF.out
end
def chOv (D:DM) (ov own:Nat->Option (List UInt8)) (home k:Nat):Option (List UInt8):=(own k).bind λ x=>if cmtB D ov home k=x then none else some x
theorem ak0 (D:DM) (ov:Nat->Option (List UInt8)) (a0 k j:Nat):cmtB (D.readedN j) ov a0 k=cmtB D ov a0 k:=by unfold cmtB;rw [alP]
theorem aoZ {l:List Ent} {seen:Array Nat} {x:Ent} (hx:x∈abD l seen) (hk:(l.map (·.1)).Nodup) (hb:(l.map (·.2.2)).Nodup) (k:Nat):k∈(abD l (seen.push x.2.2)).map (·.1)↔k∈(abD l seen).map (·.1)/\k≠x.1:=by
 rw [alN]
 constructor
 ·intro h
  obtain ⟨y,hy,rfl⟩:=List.mem_map.1 h
  obtain ⟨h1,h2⟩:=List.mem_filter.1 hy
  refine ⟨List.mem_map.2 ⟨y,h1,rfl⟩,λ e=>?_⟩
  rw [acX hk (acE h1).1 (acE hx).1 e] at h2
  simp at h2
 ·rintro ⟨h,a0⟩
  obtain ⟨y,hy,rfl⟩:=List.mem_map.1 h
  refine List.mem_map.2 ⟨y,List.mem_filter.2 ⟨hy,?_⟩,rfl⟩
  by_cases e:y.2.2=x.2.2
  ·exact absurd (congrArg (·.1) (acX hb (acE hy).1 (acE hx).1 e)) a0
  ·simpa using e
def Ai4 (own lst:List OEnt):Prop:=∀ e∈lst,∃ q∈own,q.key=e.key/\q.blk=e.blk/\q.cap=e.cap/\q.data=e.data
structure Ak8 (w:World) (C:TxC) (D:DM) (own:List OEnt) (xc r ml:Nat) (lst:List OEnt) (lc:Nat) (seen:Array Nat) (D':DM) (wr:World):Prop where
 hr:Blk wr r (agE C.mx xc seen)
 hm:AcH wr ml lst lc
 hd:AaI wr C.d D' C.F
 k:AaA (· ∈ C.F) w wr
 hj:∃ j,D'=D.readedN j
 sub:Ai4 own lst
 len:lst.length+(abD (own.map OEnt.ent) seen).length<=own.length
 val:∀ k,ovOf lst k=if k∈(abD (own.map OEnt.ent) seen).map (·.1) then none else chOv D (ovOf C.ov) (ovOf own) C.G.home k
def Ap2 (w:World) (C:TxC) (D:DM) (own:List OEnt) (e:Ending) (w':World):Prop:=
 ∃ ml lst lc j,e=U (.tuple #[.map (some ml),I 0])/\w.heap.size<=ml/\AcH w' ml lst lc/\(∀ k,ovOf lst k=chOv D (ovOf C.ov) (ovOf own) C.G.home k)/\Ai4 own lst/\lst.length<=own.length/\AaI w' C.d (D.readedN j) C.F/\AaA (· ∈ C.F) w w'
section
variable {w:World} {C:TxC} {D:DM} {own:List OEnt} {xc sp:Nat} {X:Nat->Prop} {en:Bool}
theorem Ak8.done {r ml lc:Nat} {lst:List OEnt} {seen:Array Nat} {D':DM} {wr:World} (h:Ak8 w C D own xc r ml lst lc seen D' wr) (a0:w.heap.size<=ml) (hd:abD (own.map OEnt.ent) seen=[]):Ap2 w C D own (U (.tuple #[.map (some ml),I 0])) wr:=by
 obtain ⟨j,rfl⟩:=h.hj
 have hl:=h.len
 refine ⟨ml,lst,lc,j,rfl,a0,h.hm,λ k=>?_,h.sub,?_,h.hd,h.k⟩
 ·rw [h.val k,hd,if_neg (by simp)]
 ·rw [hd] at hl;simpa using hl
theorem Ai4.put {lst:List OEnt} (h:Ai4 own lst) {q:OEnt} (hq:q∈own) (lc:Nat):Ai4 own (putE lst lc q.key q.blk q.cap q.data):=λ e he=>by
 rcases ag1 he with h1|⟨h1,h2,h3,h4,_⟩
 ·exact h e h1
 ·exact ⟨q,hq,h1.symm,h2.symm,h3.symm,h4.symm⟩
def AzY (w:World) (C:TxC) (D:DM) (own:List OEnt) (xc r ml:Nat) (lst:List OEnt) (lc:Nat) (seen:Array Nat) (q:OEnt) (e:Ending) (w2:World):Prop:=
 ∃ g kk,e=U (.tuple #[.slice (some ⟨g,0,none⟩) 512 (512+kk),I 0]) /\
  (Calls prog 169 #[.slice (some ⟨g,0,none⟩) 512 (512+kk),.slice ↑q.blk 512 q.cap] w2 λ e w3=>e=U (.bool (decide (cmtB D (ovOf C.ov) C.G.home q.key=q.data)))/\w2=w3) /\
  (cmtB D (ovOf C.ov) C.G.home q.key=q.data->∃ D2,Ak8 w C D own xc r ml lst lc (seen.push q.born) D2 w2) /\
  (cmtB D (ovOf C.ov) C.G.home q.key≠q.data->∃ w3 l2 c2 D2,(Instr.mapUpdate 135 (.map (some ml)) (I q.key) (.slice ↑q.blk 512 q.cap)).run prog w2=.ok () w3/\Ak8 w C D own xc r ml l2 c2 (seen.push q.born) D2 w3)
theorem Ak8.look (h:TxAt w C D own xc sp en X) (hb:D.burnt=false) {r ml lc:Nat} {lst:List OEnt} {seen:Array Nat} {D':DM} {wr w':World} (hR:Ak8 w C D own xc r ml lst lc seen D' wr) (aw:w.heap.size<=ml) (ax:w.heap.size<=r) (a9:r≠ml)
  {q:OEnt} (hq:q.ent∈abD (own.map OEnt.ent) seen) (a2:q∈own) (hr':Blk w' r (agE C.mx xc (seen.push q.born))) (a6:AaA (· = r) wr w') :
  w'.cell? ↑C.t=some ↑C.sb/\Calls prog 171 #[↑C.sb,I q.key] w' (AzY w C D own xc r ml lst lc seen q):=by
 obtain ⟨j,hj⟩:=hR.hj
 have aa:=h.hd.lt
 have ab:r∉C.F:=λ e=>by have:=aa r e;omega
 have ac:ml∉C.F:=λ e=>by have:=aa ml e;omega
 have K:AaA (· ∈ C.F) w w':=hR.k.trans a6 (λ i hi e=>by subst e;omega)
 have ht:=K.blk h.ht h.tF
 have hs:=K.blk h.hs h.sF
 have ho:=h.ho.keeps K h.oF
 have hd:AaI w' C.d D' C.F:=hR.hd.keeps a6 (λ i hi e=>ab (e ▸ hi))
 have hlt:∀ i∈aaH ml lst,i=ml∨(i<w.heap.size/\i∉C.F):=λ i hi=>by
  simp only [aaH,List.mem_cons,List.mem_map] at hi
  rcases hi with rfl|⟨e,he,rfl⟩
  ·exact .inl rfl
  ·obtain ⟨p,hp,_,ad,_⟩:=hR.sub e he
   have hx:p.blk∈aaH C.mx own:=by simp [aaH];exact .inr ⟨p,hp,rfl⟩
   rw [ad] at hx
   exact .inr ⟨h.hx.lt _ hx,h.xF _ hx⟩
 have hm:AcH w' ml lst lc:=hR.hm.keeps a6 (λ i hi e=>by
  rcases hlt i hi with x|x
  ·exact a9 (e.symm.trans x)
  ·omega)
 have c0:=ht.cell 0
 simp at c0
 have ah:D'.n=D.n:=by rw [hj];exact afQ _ _
 have ai:D'.burnt=false:=by rw [hj,ag0];exact hb
 have aj:=h.kb q a2
 have ay:=h.gn
 refine ⟨c0,(amE hs hd ho ai q.key aj (by omega) (by rw [ah];exact h.n2) h.sF).mono ?_⟩
 rintro e w2 ⟨g,kk,rfl,hg,hB,hD2,k2⟩
 rw [hj,ak0] at hB
 have K2:AaA (· ∈ C.F) w w2:=K.step k2
 have ak:=h.hx.keeps K2 h.xF
 have a3:=ak.ok q a2
 have a5:AcH w2 ml lst lc:=hm.keeps k2 (λ i hi e=>by
  rcases hlt i hi with x|x
  ·exact ac (x ▸ e)
  ·exact x.2 e)
 have ae:Blk w2 r (agE C.mx xc (seen.push q.born)):=k2.blk hr' ab
 have af:∃ i,cmtD D' (ovOf C.ov) q.key=D.readedN i:=by
  unfold cmtD
  split
  ·exact ⟨j,hj⟩
  ·exact ⟨j+1,by rw [hj];rfl⟩
 have al:(cmtB D (ovOf C.ov) C.G.home q.key).length=512:=by
  unfold cmtB
  cases hf':C.ov.find? (·.key == q.key) with
  | some e=>rw [adJ hf'];exact (h.ho.ok e (aEN hf')).len
  | none=>rw [agR hf'];exact h.hd.now_length _ (by omega)
 have am:((own.map OEnt.ent).map (·.1)).Nodup:=by simpa [List.map_map,Function.comp_def,OEnt.ent] using h.hx.keys
 have an:((own.map OEnt.ent).map (·.2.2)).Nodup:=by simpa [List.map_map,Function.comp_def,OEnt.ent] using h.hx.borns
 have a1:∀ k,k∈(abD (own.map OEnt.ent) (seen.push q.born)).map (·.1)↔k∈(abD (own.map OEnt.ent) seen).map (·.1)/\k≠q.key:=aoZ hq am an
 have hlen:=agP hq
 have a7:q.key∈(abD (own.map OEnt.ent) seen).map (·.1):=List.mem_map.2 ⟨_,hq,rfl⟩
 have hown:ovOf own q.key=some q.data:=by
  refine adJ (e:=q) ?_
  cases hf:own.find? (·.key == q.key) with
  | none=>have:=List.find?_eq_none.1 hf q a2;simp at this
  | some p=>rw [acX h.hx.keys (aEN hf) a2 (by simpa using List.find?_some hf)]
 have ag:chOv D (ovOf C.ov) (ovOf own) C.G.home q.key=if cmtB D (ovOf C.ov) C.G.home q.key=q.data then none else some q.data:=by
  unfold chOv;rw [hown];rfl
 refine ⟨g,kk,rfl,?_,λ ao=>?_,λ ap=>?_⟩
 ·refine (an6 w2 g 0 512 (512+kk) q.blk 0 512 q.cap _ _ hB a3.blk (by rw [aEH];omega) (by rw [aEH,a3.len];omega)).mono ?_
  rintro e w3 ⟨rfl,rfl⟩
  rw [aER,aE0 al,aER,aE0 a3.len]
  exact ⟨rfl,rfl⟩
 ·refine ⟨_,ae,a5,hD2,K2,af,hR.sub,?_,λ k=>?_⟩
  ·have h1:=hR.len
   have h2:(abD (own.map OEnt.ent) (seen.push q.born)).length<(abD (own.map OEnt.ent) seen).length:=hlen
   omega
  ·rw [hR.val k]
   have h2:=a1 k
   by_cases a4:k=q.key
   ·subst a4
    rw [if_pos a7,if_neg (λ x=>(h2.1 x).2 rfl),ag,if_pos ao]
   ·by_cases a0:k∈(abD (own.map OEnt.ent) seen).map (·.1)
    ·rw [if_pos a0,if_pos (h2.2 ⟨a0,a4⟩)]
    ·rw [if_neg a0,if_neg (λ x=>a0 (h2.1 x).1)]
 ·have aq:q.blk∈aaH C.mx own:=by simp [aaH];exact .inr ⟨q,a2,rfl⟩
  have ar:=h.hx.lt _ aq
  have au:∀ e∈lst,e.blk≠ml:=λ e he x=>by
   obtain ⟨p,hp,_,ad,_⟩:=hR.sub e he
   have hx:p.blk∈aaH C.mx own:=by simp [aaH];exact .inr ⟨p,hp,rfl⟩
   have:=h.hx.lt _ hx
   omega
  have av:=aqG (C:={ C with mx:=ml }) a5.hm a5.keys q.key q.blk q.cap q.data
  have a8:=abM w2 ml (mapO ((putE lst lc q.key q.blk q.cap q.data).map OEnt.ent) (putC lst lc q.key))
  refine ⟨_,_,_,_,av,a8.blk ae a9,a5.put a3.len a3.cap a3.blk (by omega) au,hD2.keeps a8 (λ i hi e=>ac (e ▸ hi)),K2.trans a8 (λ i hi e=>by subst e;omega),af,hR.sub.put a2 lc,?_,λ k=>?_⟩
  ·rw [alT]
   have h1:=hR.len
   have h2:(abD (own.map OEnt.ent) (seen.push q.born)).length<(abD (own.map OEnt.ent) seen).length:=hlen
   unfold arP
   split<;>omega
  ·rw [anX,hR.val k]
   have h2:=a1 k
   by_cases a4:k=q.key
   ·subst a4
    rw [if_pos rfl,if_neg (λ x=>(h2.1 x).2 rfl),ag,if_neg ap]
   ·rw [if_neg a4]
    by_cases a0:k∈(abD (own.map OEnt.ent) seen).map (·.1)
    ·rw [if_pos a0,if_pos (h2.2 ⟨a0,a4⟩)]
    ·rw [if_neg a0,if_neg (λ x=>a0 (h2.1 x).1)]
theorem awK (h:TxAt w C D own xc sp en X) (hb:D.burnt=false):Calls prog 88 #[↑C.t] w (Ap2 w C D own):=by
 have c0:=h.ht.cell 0
 have c1:=h.ht.cell 1
 simp at c0 c1
 have ae:∀ w,(Instr.makeMap 135 none).run prog w=.ok (.map (some w.heap.size)) (w.alloc (mapO [] 0)):=λ w=>run_makeMap _ w
 have c1a:=aaU c1 (mapO [] 0)
 have af:=ahN ahE (h.hx.hm.alloc (mapO [] 0))
 have hP:∀ wr lst lc seen D' r ml,w.heap.size<=ml->Ak8 w C D own xc r ml lst lc seen D' wr->abD (own.map OEnt.ent) seen=[]->Ap2 w C D own (U (.tuple #[.map (some ml),I 0])) wr:=λ wr lst lc seen D' r ml aa hR hd=>hR.done aa hd
 have hst:Ak8 w C D own xc (w.heap.size+1) w.heap.size [] 0 #[] D ((w.alloc (mapO [] 0)).alloc (agE C.mx xc #[])):=
  {hr:=by have:=Blk.new (w.alloc (mapO [] 0)) (agE C.mx xc #[]);rw [aEI] at this;exact this
   hm:=(AcH.new w).keeps ((AaA.refl NoF _).alloc _) (λ _ _ f=>f)
   hd:=h.hd.keeps (((AaA.refl NoF _).alloc _).alloc _) (λ _ _ f=>f)
   k:=((AaA.refl _ _).alloc _).alloc _
   hj:=⟨0,rfl⟩
   sub:=λ e he=>by cases he
   len:=by
    have e0:abD (own.map OEnt.ent) #[]=own.map OEnt.ent:=by simp [abD]
    rw [e0];simp
   val:=λ k=>by
    have e0:abD (own.map OEnt.ent) #[]=own.map OEnt.ent:=by simp [abD]
    rw [e0]
    split
    ·rfl
    ·rename_i hn
     have:own.find? (·.key == k)=none:=by
      rw [List.find?_eq_none]
      intro e he hk
      exact hn (List.mem_map.2 ⟨e.ent,List.mem_map.2 ⟨e,he,rfl⟩,(by simpa using hk:e.key=k)⟩)
     unfold chOv
     rw [agR this];rfl }
 have a6:((own.map OEnt.ent).map (·.2.2)).Nodup:=by simpa [List.map_map,Function.comp_def,OEnt.ent] using h.hx.borns
 have a7:∀ x∈own.map OEnt.ent,x.2.2<xc:=λ x hx=>by obtain ⟨e,he,rfl⟩:=List.mem_map.1 hx;exact h.hx.clk e he
 have a8:∀ wr lst lc seen D' r ml,Ak8 w C D own xc r ml lst lc seen D' wr->Blk wr C.mx (mapO (own.map OEnt.ent) xc):=λ wr lst lc seen D' r ml hR=>hR.k.blk h.hx.hm (h.xF _ (by simp [aaH]))
 have ab:=h.hx.hm.lt
 have a0:=λ wr w' lst lc seen D' q hR hq ac hr' hk'=>Ak8.look h hb (wr:=wr) (w':=w') (lst:=lst) (lc:=lc) (seen:=seen) (D':=D') (q:=q) (r:=w.heap.size+1) (ml:=w.heap.size) hR (aEK _) (by omega) (by omega) hq ac hr' hk'
 have hP2:=λ wr lst lc seen D' hR hd=>hP wr lst lc seen D' (w.heap.size+1) w.heap.size (aEK _) hR hd
 clear hP
 unfold AzY at a0
 generalize hPost:Ap2 w C D own=Post at *
 replace ⟨hP2,hst,a6,a7,a8,a0⟩:=yh6 hP2 hst a6 a7 a8 a0;clear h hPost hb
 go_enter Tryz.func88,Tryz.ntmps88
 go_wp2
 go_loopw [8] (λ _ wr=>∃ lst lc seen D',Ak8 w C D own xc (w.heap.size+1) w.heap.size lst lc seen D' wr) (λ _ wr=>adT (own.map OEnt.ent) (w.heap.size+1) wr)
 case atStart=>exact ⟨_,_,_,_,hst.out⟩
 case round=>
  obtain ⟨lst,lc,seen,D',hR⟩:=hrel
  clear hst
  have a1:=a8.out _ _ _ _ _ _ _ hR
  go_wp2_with (at_next;refine ae3 rfl (.tmp 14) rfl (w.heap.size+1) C.mx xc (own.map OEnt.ent) seen rfl hR.hr a1 a7.out ?_ ?_)
  ·intro a2
   have hF:=hP2.out _ _ _ _ _ hR a2
   replace ⟨hR,hF,a1⟩:=yh3 hR hF a1;clear a2
   go_wp2
   exact hF.out
  ·rintro ka va ba hx w' hr' hk' hs'
   obtain ⟨q,hq,a4⟩:=List.mem_map.1 (acE hx).1
   have ha:q.key=ka:=congrArg (·.1) a4
   have hv:q.val=va:=congrArg (·.2.1) a4
   have ad:q.born=ba:=congrArg (·.2.2) a4
   subst ha hv ad
   have hm':=hk'.blk a1 (λ e=>by omega)
   have a9:=agO (P:=prog) (x:=q.ent) hr' hm' (acE hx).1 a6.out
   replace a9:(Instr.entry ↑(w.heap.size+1)).run prog w'=.ok (.tuple #[I q.key,q.val]) w':=a9
   obtain ⟨ag,hC⟩:=a0.out wr w' lst lc seen D' q hR hx hq hr' hk'
   have a3:=agP hx
   have a5:∀ W lst lc D2,Ak8 w C D own xc (w.heap.size+1) w.heap.size lst lc (seen.push q.born) D2 W->adT (own.map OEnt.ent) (w.heap.size+1) W<adT (own.map OEnt.ent) (w.heap.size+1) wr:=λ W lst lc D2 hW=>by rw [ac3 hW.hr,ac3 hR.hr];exact a3
   unfold OEnt.val at a9
   generalize q.blk=qb at *
   generalize q.cap=qc at *
   replace ⟨hC,a5⟩:=yh2 hC a5;clear hR hx hq hr' hk' hs' hm' a1 a3 a4
   by_cases hqd:cmtB D (ovOf C.ov) C.G.home q.key=q.data
   ·rw [decide_eq_true hqd] at hC
    replace hqd:=hid hqd
    go_wp2_with (first
     | (go_at_call 171;refine hC.out.mono ?_;rintro e w2 ⟨g,kk,rfl,hE,hA,hN⟩;replace ⟨hE,hA⟩:=yh2 hE hA;clear hN)
     | (go_at_call 169;refine hE.out.mono ?_;rintro e w3 ⟨rfl,rfl⟩))
    obtain ⟨D2,hF⟩:=hA.out hqd.out
    exact ⟨⟨_,_,_,_,hF⟩,a5.out _ _ _ _ hF⟩
   ·rw [decide_eq_false hqd] at hC
    replace hqd:=hid hqd
    go_wp2_with (first
     | (go_at_call 171;refine hC.out.mono ?_;rintro e w2 ⟨g,kk,rfl,hE,hA,hN⟩;obtain ⟨w4,l2,c2,D2,ah,hF⟩:=hN hqd.out;replace ⟨hE,hF⟩:=yh2 hE hF;clear hA hN)
     | (go_at_call 169;refine hE.out.mono ?_;rintro e w3 ⟨rfl,rfl⟩))
    exact ⟨⟨_,_,_,_,hF.out⟩,a5.out _ _ _ _ hF.out⟩
end
end Go.Vk
