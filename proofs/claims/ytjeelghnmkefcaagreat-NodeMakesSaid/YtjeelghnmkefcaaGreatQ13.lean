/- Part of the proof: Tx1 Tx2 Tx3 Tx4. -/
import Derived.Test.YtjeelghnmkefcaaGreatQ12
set_option linter.unusedVariables false
set_option maxHeartbeats 16000000
set_option maxRecDepth 100000
namespace Go.Vk
open Go.RowKit Go.Proofs
open Tryz (prog)
structure Geom where
 s:Nat
 lg:Nat
 n:Nat
 life:Int
def Geom.blocks (G:Geom):Nat:=G.s - (3+G.lg)
def Geom.home (G:Geom):Nat:=3+G.lg
def Geom.data (G:Geom):Nat:=2+G.n / 4
def txO (sb mx:Nat) (sp:Nat) (en:Bool):Obj:=.cells #[↑sb,.map (some mx),I sp,.bool en] 155 (0,0)
def afD (D:DM) (life:Int):Bool:=D.burnt || (D.life != life)
def aaT (D:DM) (life:Int) (sp:Nat) (en:Bool):Nat:=if afD D life then 3 else if en then 4 else sp
section
variable {w:World} {t sb d l mo mx:Nat} {D:DM} {F:List Nat} {G:Geom} {op en:Bool} {sp:Nat}
theorem ar1 (hs:Blk w sb (acQ d l mo G.s G.lg G.n G.life op)) (h:AaI w d D F):Calls prog 69 #[↑sb] w λ e w'=>
  e=U (.bool (afD D G.life))/\∃ m,w'=w.drewN m:=by
 have c0:=hs.cell 0
 have c7:=hs.cell 7
 simp at c0 c7
 have hB:=λ n=>agI (h.drewN n)
 have hL:=λ n=>avL (h.drewN n)
 have hE:afD D G.life=(D.burnt || (D.life != G.life)):=rfl
 cases hb:D.burnt with
 | true=>
  rw [hb] at hB hE
  rw [Bool.true_or] at hE
  replace ⟨hs,h,hB,hL,hE⟩:=yh5 hs h hB hL hE
  go_enter Tryz.func69,Tryz.ntmps69
  go_upto_region 1 with fail
  go_quiet (first|(go_at_call 76;exact (hB.out _).mono (λ e w' h=>⟨h.1,_,h.2.symm⟩))|(go_at_call 141;exact (hL.out _).mono (λ e w' h=>⟨h.1,_,h.2.symm⟩)))
  go_wp2
  go_ret
  exact ⟨by rw [hE.out];rfl,nq,rfl⟩
 | false=>
  rw [hb] at hB hE
  rw [Bool.false_or] at hE
  generalize hx:(D.life != G.life)=x at hE
  replace ⟨h,hB,hL,hE⟩:=yh4 h hB hL hE;clear hs
  go_enter Tryz.func69,Tryz.ntmps69
  go_upto_region 1 with fail
  go_quiet (first|(go_at_call 76;exact (hB.out _).mono (λ e w' h=>⟨h.1,_,h.2.symm⟩))|(go_at_call 141;exact (hL.out _).mono (λ e w' h=>⟨h.1,_,h.2.symm⟩)))
  go_wp2
  go_ret
  exact ⟨by rw [hE.out];rfl,nq,rfl⟩
theorem aiP (ht:Blk w t (txO sb mx sp en)) (hs:Blk w sb (acQ d l mo G.s G.lg G.n G.life op)) (h:AaI w d D F):Calls prog 85 #[↑t] w λ e w'=>
  e=U (I (aaT D G.life sp en:Nat))/\∃ m,w'=w.drewN m:=by
 have c0:=ht.cell 0
 have c2:=ht.cell 2
 have c3:=ht.cell 3
 simp at c0 c2 c3
 have hg:=ar1 hs h
 have hE:aaT D G.life sp en=if afD D G.life then 3 else if en then 4 else sp:=rfl
 generalize afD D G.life=gn at hg hE
 cases gn with
 | true=>
  rw [if_pos rfl] at hE
  replace ⟨ht,hs,h,hg,hE⟩:=yh5 ht hs h hg hE
  go_enter Tryz.func85,Tryz.ntmps85
  go_wp2_with (go_at_call 69;refine hg.out.mono ?_;rintro e w' ⟨rfl,m,rfl⟩)
  go_ret
  exact ⟨by rw [hE.out];rfl,m,rfl⟩
 | false=>
  rw [if_neg (by decide)] at hE
  cases en with
  | true=>
   rw [if_pos rfl] at hE
   replace ⟨ht,hs,h,hg,hE⟩:=yh5 ht hs h hg hE
   go_enter Tryz.func85,Tryz.ntmps85
   go_wp2_with (go_at_call 69;refine hg.out.mono ?_;rintro e w' ⟨rfl,m,rfl⟩)
   go_ret
   exact ⟨by rw [hE.out];rfl,m,rfl⟩
  | false=>
   rw [if_neg (by decide)] at hE
   replace ⟨hg,hE⟩:=yh2 hg hE;clear ht hs h
   go_enter Tryz.func85,Tryz.ntmps85
   go_wp2_with (go_at_call 69;refine hg.out.mono ?_;rintro e w' ⟨rfl,m,rfl⟩)
   go_ret
   exact ⟨by rw [hE.out];rfl,m,rfl⟩
def txAt (D:DM) (G:Geom) (sp:Nat) (en:Bool) (b:Int):Nat:=if aaT D G.life sp en≠0 then aaT D G.life sp en else if b<0∨(G.blocks:Int)<=b then 11 else 0
theorem axC (ht:Blk w t (txO sb mx sp en)) (hs:Blk w sb (acQ d l mo G.s G.lg G.n G.life op)) (h:AaI w d D F) (b:Int):Calls prog 168 #[↑t,I b] w λ e w'=>
  e=U (I (txAt D G sp en b:Nat))/\∃ m,w'=w.drewN m:=by
 have c0:=ht.cell 0
 have s4:=hs.cell 4
 simp at c0 s4
 have hst:=aiP ht hs h
 have hE:txAt D G sp en b=if aaT D G.life sp en≠0 then aaT D G.life sp en else if b<0∨(G.blocks:Int)<=b then 11 else 0:=rfl
 replace s4:w.cell? ⟨sb,4,none⟩=some (I (G.blocks:Nat)):=s4
 generalize aaT D G.life sp en=st at hst hE
 generalize G.blocks=bl at s4 hE
 by_cases h0:st=0
 ·subst h0
  rw [if_neg (by decide)] at hE
  by_cases a0:b<0
  ·rw [if_pos (.inl a0)] at hE
   replace ⟨ht,hs,h,hst,hE⟩:=yh5 ht hs h hst hE
   go_enter Tryz.func168,Tryz.ntmps168
   go_wp2_with (go_at_call 85;refine hst.out.mono ?_;rintro e w' ⟨rfl,m,rfl⟩)
   go_ret
   exact ⟨by rw [hE.out];rfl,m,rfl⟩
  ·by_cases a1:(bl:Int)<=b
   ·rw [if_pos (.inr a1)] at hE
    replace ⟨ht,hs,h,hst,hE⟩:=yh5 ht hs h hst hE
    go_enter Tryz.func168,Tryz.ntmps168
    go_wp2_with (go_at_call 85;refine hst.out.mono ?_;rintro e w' ⟨rfl,m,rfl⟩)
    go_ret
    exact ⟨by rw [hE.out];rfl,m,rfl⟩
   ·rw [if_neg (by omega)] at hE
    replace ⟨ht,hs,h,hst,hE⟩:=yh5 ht hs h hst hE
    go_enter Tryz.func168,Tryz.ntmps168
    go_wp2_with (go_at_call 85;refine hst.out.mono ?_;rintro e w' ⟨rfl,m,rfl⟩)
    go_ret
    exact ⟨by rw [hE.out];rfl,m,rfl⟩
 ·rw [if_pos h0] at hE
  have hi:((st:Int) != 0)=true:=by simp;exact h0
  replace ⟨hst,hE⟩:=yh2 hst hE;clear ht hs h h0
  go_enter Tryz.func168,Tryz.ntmps168
  go_wp2_with (go_at_call 85;refine hst.out.mono ?_;rintro e w' ⟨rfl,m,rfl⟩)
  go_ret
  exact ⟨by rw [hE.out];rfl,m,rfl⟩
theorem an0 (ht:Blk w t (txO sb mx sp en)) (hs:Blk w sb (acQ d l mo G.s G.lg G.n G.life op)):Calls prog 86 #[↑t] w λ e w'=>
  e=U (.agg (ae8 G.s G.lg G.n).toArray)/\AaA NoF w w':=by
 have c0:=ht.cell 0
 unfold ae8
 have a0:=hs
 unfold acQ at a0
 generalize 3+G.lg=v1 at a0 ⊢
 generalize G.s - v1=v2 at a0 ⊢
 generalize 2+G.n / 4=v3 at a0 ⊢
 have s2:=a0.cell 2
 have s3:=a0.cell 3
 have s4:=a0.cell 4
 have s5:=a0.cell 5
 have s6:=a0.cell 6
 simp at c0 s2 s3 s4 s5 s6
 have a1:=ht.lt
 have hsl:=hs.lt
 clear a0
 clear ht hs
 go_enter Tryz.func86,Tryz.ntmps86
 go_wp2
 exact bodyPost_ret (v:=.agg #[I G.lg,I v1,I v2,I G.n,I v3]) (by simp [results,Tryz.results86,go_sem]) rfl ⟨rfl,(AaA.refl _ _).alloc _⟩
end
theorem ahE:prog.underlying 135=some (.map 3 40):=by kernel_rfl
theorem atV (w:World):(zeroValue 40).run prog w=.ok (.slice none 0 0) w:=by kernel_rfl
theorem agT (es:List OEnt) (k:Nat):look (es.map OEnt.ent) k=(es.find? (·.key == k)).map OEnt.val:=by
 unfold look
 rw [List.find?_map]
 cases h:es.find? ((λ x:Ent=>x.1 == k) ∘ OEnt.ent) with
 | none=>
  have:es.find? (·.key == k)=none:=h
  rw [this];rfl
 | some e=>
  have:es.find? (·.key == k)=some e:=h
  rw [this];rfl
theorem AcH.look_none {w:World} {m:Nat} {es:List OEnt} {clock:Nat} (h:AcH w m es clock) {k:Nat} (hf:es.find? (·.key == k)=none) :
  (Instr.lookup 135 (.map (some m)) (I k) true).run prog w=.ok (.tuple #[.slice none 0 0,↑false]) w:=by
 have:=ajA (k:=k) ahE ai6 h.hm (atV w)
 rw [agT,hf] at this
 exact this
theorem AcH.look_some {w:World} {m:Nat} {es:List OEnt} {clock:Nat} (h:AcH w m es clock) {k:Nat} {e:OEnt} (hf:es.find? (·.key == k)=some e) :
  (Instr.lookup 135 (.map (some m)) (I k) true).run prog w=.ok (.tuple #[e.val,↑true]) w:=by
 have:=ajA (k:=k) ahE ai6 h.hm (atV w)
 rw [agT,hf] at this
 exact this
theorem agR {es:List OEnt} {k:Nat} (hf:es.find? (·.key == k)=none):ovOf es k=none:=by unfold ovOf;rw [hf];rfl
theorem adJ {es:List OEnt} {k:Nat} {e:OEnt} (hf:es.find? (·.key == k)=some e):ovOf es k=some e.data:=by unfold ovOf;rw [hf];rfl
theorem AaA.cellF {G:Nat->Prop} {w w':World} (k:AaA G w w') {a:Addr} {v:Value} (h:w.cell? a=some v) (hG:¬ G a.block):w'.cell? a=some v:=by
 have hb:=World.block_lt_of_cell? w a h
 have:=k.block a.block hb hG
 unfold World.cell? at *
 rw [this];exact h
def AdY (w:World) (d:Nat) (F:List Nat) (D':DM) (bs:List UInt8) (e:Ending) (w':World):Prop:=
 ∃ g k,e=U (.tuple #[.slice (some ⟨g,0,none⟩) 512 (512+k),I 0])/\w.heap.size<=g/\Blk w' g (aaE (bs++aaD k))/\AaI w' d D' F/\AaA (· ∈ F) w w'
def cmtB (D:DM) (ov:Nat->Option (List UInt8)) (home b:Nat):List UInt8:=(ov b).getD (D.now (home+b))
def cmtD (D:DM) (ov:Nat->Option (List UInt8)) (b:Nat):DM:=if (ov b).isSome then D else D.readed
section
variable {w:World} {t sb d l mo mx:Nat} {D:DM} {F:List Nat} {G:Geom} {op en:Bool} {sp:Nat} {ov own:List OEnt} {oc xc:Nat}
theorem apT {e:OEnt} (h:e.ok w):Calls prog 170 #[e.val] w λ r w'=>∃ b k,w.heap.size<=b/\r=U (.slice (some ⟨b,0,none⟩) 512 (512+k))/\Blk w' b (aaE (e.data++aaD k))/\AaA NoF w w':=by
 have:=awH w 5 e.blk 0 512 e.cap (e.data++aaD (e.cap - 512)) h.blk (by rw [aEH,h.len];omega) (by decide) (by decide)
 rw [aER,aE0 h.len] at this
 exact this
theorem amE (hs:Blk w sb (acQ d l mo G.s G.lg G.n G.life op)) (h:AaI w d D F) (ho:AcH w mo ov oc) (hb:D.burnt=false) (b:Nat) (_:b<G.blocks) (hg:G.home+b<D.n) (hn:D.n<=2048) (a3:sb∉F) :
  Calls prog 171 #[↑sb,I b] w (AdY w d F (cmtD D (ovOf ov) b) (cmtB D (ovOf ov) G.home b)):=by
 have c0:=hs.cell 0
 have c8:=hs.cell 8
 have hs3:=hs.cell 3
 simp at c0 c8
 replace hs3:w.cell? ⟨sb,3,none⟩=some (I (G.home:Nat)):=hs3
 unfold cmtB cmtD
 cases hf:ov.find? (·.key == b) with
 | some e=>
  have a2:=ho.look_some hf
  rw [adJ hf]
  have he:=aEN hf
  have a0:=apT (ho.ok e he)
  have hP:∀ g k W,w.heap.size<=g->Blk W g (aaE (e.data++aaD k))->AaA NoF w W->AdY w d F D e.data (U (.tuple #[.slice (some ⟨g,0,none⟩) 512 (512+k),I 0])) W:=
   λ g k W x1 x2 x3=>⟨g,k,rfl,x1,x2,h.keeps x3 (λ _ _ f=>f),x3.mono (λ _ _ f=>f.elim)⟩
  show Calls _ _ _ _ (AdY w d F D e.data)
  generalize AdY w d F D e.data=Post at hP ⊢
  unfold OEnt.val at a2 a0
  generalize e.cap=ec at a2 a0
  generalize e.blk=eb at a2 a0
  replace ⟨hs,h,ho,hP,a0,hf⟩:=yh6 hs h ho hP a0 hf;clear he
  go_enter Tryz.func171,Tryz.ntmps171
  go_wp2_with (go_at_call 170;refine a0.out.mono ?_;rintro r w2 ⟨g,k,hg,rfl,hB,k2⟩;replace ⟨hg,hB,k2⟩:=yh3 hg hB k2)
  exact hP.out g k w2 hg.out hB.out k2.out
 | none=>
  have a2:=ho.look_none hf
  rw [agR hf]
  have hP:∀ g W,w.heap.size<=g->Blk W g (aaE (D.now (G.home+b)))->AaI W d D.readed F->AaA (· ∈ F) w W->AdY w d F D.readed (D.now (G.home+b)) (U (.tuple #[.slice (some ⟨g,0,none⟩) 512 512,I 0])) W:=
   λ g W x1 x2 x3 x4=>⟨g,0,rfl,x1,by simpa [aaD] using x2,x3,x4⟩
  show Calls _ _ _ _ (AdY w d F D.readed (D.now (G.home+b)))
  generalize AdY w d F D.readed (D.now (G.home+b))=Post at hP ⊢
  have hR:=akA h.drew hb ((G.home:Int)+(b:Int)) (by omega) (by omega)
  rw [show ((G.home:Int)+(b:Int)).toNat=G.home+b by omega] at hR
  have a6:IntKind.i64.wrap ((G.home:Int)+(b:Int))=(G.home:Int)+(b:Int):=aaO (by omega) (by omega)
  have c0d:w.drew.cell? ↑sb=some ↑d:=c0
  have a1:w.drew.cell? ⟨sb,3,none⟩=some (I (G.home:Nat)):=hs3
  have a4:Blk w.drew sb (acQ d l mo G.s G.lg G.n G.life op):=hs
  generalize G.home=hm at *
  replace ⟨hP,hR,a4⟩:=yh3 hP hR a4;clear hs h ho hf
  go_enter Tryz.func171,Tryz.ntmps171
  go_upto_region 4 with fail
  go_region_held3 (λ W=>W.cell? ↑sb=some ↑d/\W.cell? ⟨sb,3,none⟩=some (I hm)) (first|with_reducible exact ⟨c0d,a1⟩|with_reducible exact ⟨q0,q3⟩) (first
   | (go_at_call 149;refine hR.out.mono ?_;rintro e w2 ⟨g,rfl,hg,hB,hD2,k2⟩;have a5:=k2.blk a4.out a3;have q0:w2.cell? ↑sb=some ↑d:=k2.cellF c0d a3;have q3:w2.cell? ⟨sb,3,none⟩=some (I hm):=k2.cellF a1 a3;replace ⟨hg,hB,hD2,k2⟩:=yh4 hg hB hD2 k2;clear a5))
  all_goals
   have hX:=hP.out g w2 hg.out hB.out hD2.out (((AaA.refl (· ∈ F) w).drew).step k2.out)
   replace hX:=hid hX
   go_wp2
   exact hX.out
def getB (D:DM) (ov own:Nat->Option (List UInt8)) (home b:Nat):List UInt8:=(own b).getD (cmtB D ov home b)
def ajJ (D:DM) (ov own:Nat->Option (List UInt8)) (b:Nat):DM:=if (own b).isSome then D else cmtD D ov b
theorem AcH.drewN {w:World} {m:Nat} {es:List OEnt} {clock:Nat} (h:AcH w m es clock) (n:Nat):AcH (w.drewN n) m es clock:=h.keep (λ _ _=>rfl)
theorem aED (ht:Blk w t (txO sb mx sp en)) (hs:Blk w sb (acQ d l mo G.s G.lg G.n G.life op)) (h:AaI w d D F) (b:Int) (a0:txAt D G sp en b≠0) :
  Calls prog 122 #[↑t,I b] w λ e w'=>e=U (.tuple #[.slice none 0 0,I (txAt D G sp en b:Nat)])/\∃ m,w'=w.drewN m:=by
 have hA:=axC ht hs h b
 generalize txAt D G sp en b=c at hA a0 ⊢
 have a1:((c:Int) != 0)=true:=by simp;exact a0
 replace hA:=hid hA;clear ht hs h a0
 go_enter Tryz.func122,Tryz.ntmps122
 go_wp2_with (go_at_call 168;refine hA.out.mono ?_;rintro e w' ⟨rfl,m,rfl⟩)
 go_ret2
 exact ⟨rfl,m,rfl⟩
theorem atX (h0:aaT D G.life sp en=0) (b:Nat) (a0:b<G.blocks):txAt D G sp en (b:Int)=0:=by
 unfold txAt
 rw [h0,if_neg (by decide),if_neg (by omega)]
theorem anS (h0:aaT D G.life sp en=0):D.burnt=false:=by
 unfold aaT afD at h0
 cases hb:D.burnt with
 | false=>rfl
 | true=>rw [hb,Bool.true_or,if_pos rfl] at h0;cases h0
theorem aDL (ht:Blk w t (txO sb mx sp en)) (hs:Blk w sb (acQ d l mo G.s G.lg G.n G.life op)) (h:AaI w d D F) (ho:AcH w mo ov oc) (hx:AcH w mx own xc) (h0:aaT D G.life sp en=0)
  (b:Nat) (a3:b<G.blocks) (hg:G.home+b<D.n) (hn:D.n<=2048) (a4:sb∉F) :
  Calls prog 122 #[↑t,I b] w (AdY w d F (ajJ D (ovOf ov) (ovOf own) b) (getB D (ovOf ov) (ovOf own) G.home b)):=by
 have hA:=axC ht hs h b
 rw [atX h0 b a3] at hA
 have c0:=ht.cell 0
 have c1:=ht.cell 1
 simp at c0 c1
 unfold getB ajJ
 cases hf:own.find? (·.key == b) with
 | some e=>
  have a1:=λ m=>(hx.drewN m).look_some hf
  rw [adJ hf]
  have he:=aEN hf
  have a0:=λ m=>apT (w:=w.drewN m) ⟨(hx.ok e he).len,(hx.ok e he).blk.drewN m,(hx.ok e he).cap⟩
  have hP:∀ m g k W,w.heap.size<=g->Blk W g (aaE (e.data++aaD k))->AaA NoF (w.drewN m) W->AdY w d F D e.data (U (.tuple #[.slice (some ⟨g,0,none⟩) 512 (512+k),I 0])) W:=
   λ m g k W x1 x2 x3=>⟨g,k,rfl,x1,x2,(h.drewN m).keeps x3 (λ _ _ f=>f),((AaA.refl NoF w).drewN m).step x3 |>.mono (λ _ _ f=>f.elim)⟩
  show Calls _ _ _ _ (AdY w d F D e.data)
  generalize AdY w d F D e.data=Post at hP ⊢
  unfold OEnt.val at a1 a0
  generalize e.cap=ec at a1 a0
  generalize e.blk=eb at a1 a0
  replace ⟨ht,hs,h,ho,hx,hA,hP,a0⟩:=yh8 ht hs h ho hx hA hP a0;replace ⟨hf,h0⟩:=yh2 hf h0;clear he
  go_enter Tryz.func122,Tryz.ntmps122
  go_wp2_with (first
   | (go_at_call 168;refine hA.out.mono ?_;rintro r w' ⟨rfl,m,rfl⟩)
   | (go_at_call 170;refine (a0.out _).mono ?_;rintro r w2 ⟨g,k,hg,rfl,hB,k2⟩;replace ⟨hg,hB,k2⟩:=yh3 hg hB k2))
  exact hP.out _ g k w2 hg.out hB.out k2.out
 | none=>
  have a1:=λ m=>(hx.drewN m).look_none hf
  rw [agR hf]
  have a2:=λ m=>amE (w:=w.drewN m) (hs.drewN m) (h.drewN m) (ho.drewN m) (anS h0) b a3 hg hn a4
  have hP:∀ m e W,AdY (w.drewN m) d F (cmtD D (ovOf ov) b) (cmtB D (ovOf ov) G.home b) e W->AdY w d F (cmtD D (ovOf ov) b) (cmtB D (ovOf ov) G.home b) e W:=by
   rintro m e W ⟨g,k,x1,x2,x3,x4,x5⟩
   exact ⟨g,k,x1,x2,x3,x4,((AaA.refl (· ∈ F) w).drewN m).step x5⟩
  have hS:∀ W e m,AdY (w.drewN m) d F (cmtD D (ovOf ov) b) (cmtB D (ovOf ov) G.home b) e W->∃ g k,e=U (.tuple #[.slice (some ⟨g,0,none⟩) 512 (512+k),I 0]):=λ W e m x=>by
   obtain ⟨g,k,x1,_⟩:=x
   exact ⟨g,k,x1⟩
  show Calls _ _ _ _ (AdY w d F (cmtD D (ovOf ov) b) (cmtB D (ovOf ov) G.home b))
  generalize AdY w d F (cmtD D (ovOf ov) b) (cmtB D (ovOf ov) G.home b)=Post at hP ⊢
  replace ⟨hA,hP,a2,hS⟩:=yh4 hA hP a2 hS;clear ht hs h ho hx hf h0
  go_enter Tryz.func122,Tryz.ntmps122
  go_wp2_with (first
   | (go_at_call 168;refine hA.out.mono ?_;rintro r w' ⟨rfl,m,rfl⟩)
   | (go_at_call 171;refine (a2.out _).mono ?_;intro r w2 hr;obtain ⟨g,k,rfl⟩:=hS.out _ _ _ hr;replace hr:=hid (hP.out _ _ _ hr)))
  exact hr.out
end
structure TxC where
 t:Nat
 sb:Nat
 d:Nat
 l:Nat
 mo:Nat
 mx:Nat
 F:List Nat
 G:Geom
 op:Bool
 ov:List OEnt
 oc:Nat
structure TxAt (w:World) (C:TxC) (D:DM) (own:List OEnt) (xc sp:Nat) (en:Bool) (X:Nat->Prop):Prop where
 ht:Blk w C.t (txO C.sb C.mx sp en)
 hs:Blk w C.sb (acQ C.d C.l C.mo C.G.s C.G.lg C.G.n C.G.life C.op)
 hd:AaI w C.d D C.F
 ho:AcH w C.mo C.ov C.oc
 hx:AcH w C.mx own xc
 tF:C.t∉C.F
 sF:C.sb∉C.F
 oF:∀ k∈aaH C.mo C.ov,k∉C.F
 xF:∀ k∈aaH C.mx own,k∉C.F
 ts:C.t≠C.sb
 tO:C.t∉aaH C.mo C.ov
 tX:C.t∉aaH C.mx own
 sO:C.sb∉aaH C.mo C.ov
 sX:C.sb∉aaH C.mx own
 xO:∀ k∈aaH C.mx own,k∉aaH C.mo C.ov
 mb:∀ e∈own,e.blk≠C.mx
 kb:∀ e∈own,e.key<C.G.blocks
 gn:C.G.home+C.G.blocks<=D.n
 n2:D.n<=2048
 xX:∀ k,X k->k≠C.t/\k≠C.sb/\k∉C.F/\k∉aaH C.mo C.ov/\k∉aaH C.mx own
section
variable {w w':World} {C:TxC} {D D':DM} {own:List OEnt} {xc sp:Nat} {en:Bool} {X:Nat->Prop}
theorem TxAt.keep (h:TxAt w C D own xc sp en X) {Gf:Nat->Prop} (k:AaA Gf w w') (hG:∀ i,Gf i->i∈C.F∨X i) (hD:AaI w' C.d D' C.F) (hn:D'.n=D.n):TxAt w' C D' own xc sp en X where
 ht:=k.blk h.ht λ g=>(hG _ g).elim h.tF λ x=>(h.xX _ x).1 rfl
 hs:=k.blk h.hs λ g=>(hG _ g).elim h.sF λ x=>(h.xX _ x).2.1 rfl
 hd:=hD
 ho:=h.ho.keeps k λ i hi g=>(hG _ g).elim (h.oF i hi) λ x=>(h.xX _ x).2.2.2.1 hi
 hx:=h.hx.keeps k λ i hi g=>(hG _ g).elim (h.xF i hi) λ x=>(h.xX _ x).2.2.2.2 hi
 tF:=h.tF
 sF:=h.sF
 oF:=h.oF
 xF:=h.xF
 ts:=h.ts
 tO:=h.tO
 tX:=h.tX
 sO:=h.sO
 sX:=h.sX
 xO:=h.xO
 mb:=h.mb
 kb:=h.kb
 gn:=by rw [hn];exact h.gn
 n2:=by rw [hn];exact h.n2
 xX:=h.xX
theorem TxAt.quiet (h:TxAt w C D own xc sp en X) {Gf:Nat->Prop} (k:AaA Gf w w') (hG:∀ i,Gf i->X i) (hF:∀ i,X i->i∉C.F):TxAt w' C D own xc sp en X:=
 h.keep k (λ i g=>.inr (hG i g)) (h.hd.keeps k λ i hi g=>hF i (hG i g) hi) rfl
theorem TxAt.client (h:TxAt w C D own xc sp en X) {Y:Nat->Prop} (hY:∀ i,Y i->X i∨w.heap.size<=i):TxAt w C D own xc sp en Y:=
 { h with
  xX:=λ k hk=>by
   rcases hY k hk with x|x
   ·exact h.xX k x
   ·exact ⟨λ e=>by have:=h.ht.lt;omega,λ e=>by have:=h.hs.lt;omega,λ e=>by have:=h.hd.lt k e;omega,λ e=>by have:=h.ho.lt k e;omega,λ e=>by have:=h.hx.lt k e;omega⟩ }
def putE (own:List OEnt) (xc b g cap:Nat) (data:List UInt8):List OEnt:=
 match own.find? (·.key == b) with
 | some _=>own.map λ e=>if e.key == b then { e with blk:=g,cap:=cap,data:=data } else e
 | none=>own++[⟨b,xc,g,cap,data⟩]
def putC (own:List OEnt) (xc b:Nat):Nat:=match own.find? (·.key == b) with|some _=>xc|none=>xc+1
def arP (own:List OEnt) (b:Nat):Nat:=if (ovOf own b).isSome then own.length else own.length+1
theorem aqG {W:World} (h:Blk W C.mx (mapO (own.map OEnt.ent) xc)) (hk:(own.map (·.key)).Nodup) (b g cap:Nat) (data:List UInt8) :
  (Instr.mapUpdate 135 (.map (some C.mx)) (I b) (.slice ↑g 512 cap)).run prog W =
   .ok () (W.setBlk C.mx (mapO ((putE own xc b g cap data).map OEnt.ent) (putC own xc b))):=by
 have hk':((own.map OEnt.ent).map (·.1)).Nodup:=by simpa [Function.comp_def,OEnt.ent] using hk
 cases hf:own.find? (·.key == b) with
 | none=>
  have hl:look (own.map OEnt.ent) b=none:=by rw [agT,hf];rfl
  rw [aiK ahE ai6 h hl]
  simp [putE,putC,hf,OEnt.ent,OEnt.val]
 | some p=>
  have hl:look (own.map OEnt.ent) b=some p.val:=by rw [agT,hf];rfl
  rw [aiJ ahE ai6 h hk' hl]
  have e:aqE (own.map OEnt.ent) b (.slice ↑g 512 cap)=(putE own xc b g cap data).map OEnt.ent:=by
   simp only [aqE,putE,hf,List.map_map]
   refine List.map_congr_left λ q hq=>?_
   by_cases a0:q.key=b
   ·simp [OEnt.ent,a0,OEnt.val]
   ·simp [OEnt.ent,a0]
  rw [e]
  simp [putC,hf]
theorem apK (f:OEnt->OEnt) (hf:∀ e,(f e).key=e.key) (l:List OEnt) (k:Nat):(l.map f).find? (·.key == k)=(l.find? (·.key == k)).map f:=by
 rw [List.find?_map]
 have:((λ x:OEnt=>x.key == k) ∘ f)=λ x=>x.key == k:=by funext x;simp [hf]
 rw [this]
theorem anX (own:List OEnt) (xc b g cap:Nat) (data:List UInt8) (k:Nat):ovOf (putE own xc b g cap data) k=if k=b then some data else ovOf own k:=by
 unfold ovOf putE
 cases hf:own.find? (·.key == b) with
 | some p=>
  dsimp only
  rw [apK _ (λ e=>by split<;>rfl)]
  have a0:p.key=b:=by simpa using List.find?_some hf
  by_cases hk:k=b
  ·subst hk
   rw [hf,if_pos rfl]
   simp [a0]
  ·rw [if_neg hk]
   cases hq:own.find? (·.key == k) with
   | none=>rfl
   | some q=>
    have a1:q.key=k:=by simpa using List.find?_some hq
    have:¬ q.key=b:=by omega
    simp [this]
 | none=>
  dsimp only
  rw [List.find?_append]
  by_cases hk:k=b
  ·subst hk
   rw [hf,if_pos rfl]
   simp
  ·rw [if_neg hk]
   have:¬ b=k:=λ e=>hk e.symm
   cases own.find? (·.key == k)<;>simp [this]
theorem alT (own:List OEnt) (xc b g cap:Nat) (data:List UInt8):(putE own xc b g cap data).length=arP own b:=by
 unfold putE arP ovOf
 cases own.find? (·.key == b)<;>simp
theorem ag1 {own:List OEnt} {xc b g cap:Nat} {data:List UInt8} {e:OEnt} (h:e∈putE own xc b g cap data) :
  e∈own∨(e.key=b/\e.blk=g/\e.cap=cap/\e.data=data/\(e.born=xc/\own.find? (·.key == b)=none∨∃ q∈own,q.born=e.born)):=by
 unfold putE at h
 cases hf:own.find? (·.key == b) with
 | some p=>
  rw [hf] at h
  dsimp only at h
  obtain ⟨q,hq,rfl⟩:=List.mem_map.1 h
  by_cases a0:q.key=b
  ·simp [a0];exact .inr ⟨q,hq,rfl⟩
  ·simp [a0,hq]
 | none=>
  rw [hf] at h
  dsimp only at h
  rcases List.mem_append.1 h with h|h
  ·exact .inl h
  ·simp at h;subst h;exact .inr ⟨rfl,rfl,rfl,rfl,.inl ⟨rfl,rfl⟩⟩
theorem AcH.put {W:World} {m:Nat} (h:AcH W m own xc) {b g cap:Nat} {data:List UInt8} (hl:data.length=512) (hc:512<=cap) (hg:Blk W g (aaE (data++aaD (cap - 512)))) (a0:g≠m) (a1:∀ e∈own,e.blk≠m) :
  AcH (W.setBlk m (mapO ((putE own xc b g cap data).map OEnt.ent) (putC own xc b))) m (putE own xc b g cap data) (putC own xc b) where
 hm:=h.hm.setBlk _
 ok:=λ e he=>by
  rcases ag1 he with h1|⟨_,h2,h3,h4,_⟩
  ·exact ⟨(h.ok e h1).len,(h.ok e h1).blk.setBlk_ne (a1 e h1) _,(h.ok e h1).cap⟩
  ·exact ⟨by rw [h4];exact hl,by rw [h2,h3,h4];exact hg.setBlk_ne a0 _,by rw [h3];exact hc⟩
 keys:=by
  unfold putE
  cases hf:own.find? (·.key == b) with
  | some p=>
   dsimp only
   rw [List.map_map,show ((λ e:OEnt=>e.key) ∘ λ e:OEnt=>if e.key == b then { e with blk:=g,cap:=cap,data:=data } else e)=(·.key) from by funext e;simp only [Function.comp];split<;>rfl]
   exact h.keys
  | none=>
   dsimp only
   rw [List.map_append,List.nodup_append]
   refine ⟨h.keys,by simp,λ a ha c hc e=>?_⟩
   obtain ⟨q,hq,rfl⟩:=List.mem_map.1 ha
   simp at hc
   have:=List.find?_eq_none.1 hf q hq
   simp at this
   omega
 borns:=by
  unfold putE
  cases hf:own.find? (·.key == b) with
  | some p=>
   dsimp only
   rw [List.map_map,show ((λ e:OEnt=>e.born) ∘ λ e:OEnt=>if e.key == b then { e with blk:=g,cap:=cap,data:=data } else e)=(·.born) from by funext e;simp only [Function.comp];split<;>rfl]
   exact h.borns
  | none=>
   dsimp only
   rw [List.map_append,List.nodup_append]
   refine ⟨h.borns,by simp,λ a ha c hc e=>?_⟩
   obtain ⟨q,hq,rfl⟩:=List.mem_map.1 ha
   simp at hc
   have:=h.clk q hq
   omega
 clk:=λ e he=>by
  have a2:xc<=putC own xc b:=by unfold putC;split<;>omega
  rcases ag1 he with h1|⟨_,_,_,_,h5⟩
  ·have:=h.clk e h1;omega
  ·rcases h5 with ⟨h5,h6⟩|⟨q,hq,h5⟩
   ·unfold putC;rw [h6];dsimp only;omega
   ·have:=h.clk q hq;omega
theorem ahO {m:Nat} {own:List OEnt} {xc b g cap:Nat} {data:List UInt8} {k:Nat} (h:k∈aaH m (putE own xc b g cap data)):k∈aaH m own∨k=g:=by
 simp only [aaH,List.mem_cons,List.mem_map] at h ⊢
 rcases h with rfl|⟨e,he,rfl⟩
 ·exact .inl (.inl rfl)
 ·rcases ag1 he with h1|⟨_,h2,_⟩
  ·exact .inl (.inr ⟨e,h1,rfl⟩)
  ·exact .inr h2
theorem TxAt.put (h:TxAt w C D own xc sp en X) {b g cap:Nat} {data:List UInt8} (hb:b<C.G.blocks) (hl:data.length=512) (hc:512<=cap) (hg:Blk w g (aaE (data++aaD (cap - 512))))
  (g1:g≠C.t) (g2:g≠C.sb) (g3:g∉C.F) (g4:g∉aaH C.mo C.ov) (g5:g∉aaH C.mx own) (g6:¬ X g) :
  TxAt (w.setBlk C.mx (mapO ((putE own xc b g cap data).map OEnt.ent) (putC own xc b))) C D (putE own xc b g cap data) (putC own xc b) sp en X where
 ht:=h.ht.setBlk_ne (λ e=>h.tX (by simp [aaH,e])) _
 hs:=h.hs.setBlk_ne (λ e=>h.sX (by simp [aaH,e])) _
 hd:=h.hd.keeps (abM _ _ _) λ i hi e=>h.xF C.mx (by simp [aaH]) (e ▸ hi)
 ho:=h.ho.keeps (abM _ _ _) λ i hi e=>h.xO C.mx (by simp [aaH]) (e ▸ hi)
 hx:=h.hx.put hl hc hg (λ e=>g5 (by simp [aaH,e])) h.mb
 tF:=h.tF
 sF:=h.sF
 oF:=h.oF
 xF:=λ k hk=>(ahO hk).elim (h.xF k) λ e=>e ▸ g3
 ts:=h.ts
 tO:=h.tO
 tX:=λ hk=>(ahO hk).elim h.tX λ e=>g1 e.symm
 sO:=h.sO
 sX:=λ hk=>(ahO hk).elim h.sX λ e=>g2 e.symm
 xO:=λ k hk=>(ahO hk).elim (h.xO k) λ e=>e ▸ g4
 mb:=λ e he=>by
  rcases ag1 he with h1|⟨_,h2,_⟩
  ·exact h.mb e h1
  ·rw [h2];exact λ e=>g5 (by simp [aaH,e])
 kb:=λ e he=>by
  rcases ag1 he with h1|⟨h2,_⟩
  ·exact h.kb e h1
  ·rw [h2];exact hb
 gn:=h.gn
 n2:=h.n2
 xX:=λ k hk=>by
  obtain ⟨a1,a2,a3,a4,a5⟩:=h.xX k hk
  exact ⟨a1,a2,a3,a4,λ hk'=>(ahO hk').elim a5 λ e=>g6 (e ▸ hk)⟩
theorem TxAt.spoil (h:TxAt w C D own xc sp false X) (c:Nat):TxAt (w.setCell ⟨C.t,2,none⟩ (I c)) C D own xc c false X:=
 have k:AaA (· = C.t) w (w.setCell ⟨C.t,2,none⟩ (I c)):=(AaA.refl (· = C.t) w).setCell (p:=⟨C.t,2,none⟩) (.inl rfl) _
 { h with
  ht:=by
   have:=h.ht.setCell 2 (I c)
   simpa [txO] using this
  hs:=k.blk h.hs λ e=>h.ts e.symm
  hd:=h.hd.keeps k λ i hi e=>h.tF (e ▸ hi)
  ho:=h.ho.keeps k λ i hi e=>h.tO (e ▸ hi)
  hx:=h.hx.keeps k λ i hi e=>h.tX (e ▸ hi) }
end
section
variable {w:World} {sb d l mo:Nat} {D:DM} {F:List Nat} {G:Geom}
theorem ay7 (hs:Blk w sb (acQ d l mo G.s G.lg G.n G.life false)) (h:AaI w d D F) (hg:afD D G.life=false):Calls prog 57 #[↑sb] w λ e w'=>
  ∃ t mx,e=U (.tuple #[.pointer (some ⟨t,0,none⟩),I 0])/\w.heap.size<=t/\w.heap.size<=mx/\t≠mx/\Blk w' t (txO sb mx 0 false)/\AcH w' mx [] 0/\Blk w' sb (acQ d l mo G.s G.lg G.n G.life true)/\AaA (· = sb) w w':=by
 have c9:=hs.cell 9
 simp at c9
 have a0:=ar1 hs h
 rw [hg] at a0
 have a1:=λ n=>(hs.drewN n).frz 9
 have hlt:=hs.lt
 have a2:∀ w,(Instr.makeMap 135 none).run prog w=.ok (.map (some w.heap.size)) (w.alloc (mapO [] 0)):=λ w=>run_makeMap _ w
 have hB:∀ n,Blk ((w.drewN n).setCell ⟨sb,9,none⟩ ↑true) sb (acQ d l mo G.s G.lg G.n G.life true):=λ n=>by
  have:=(hs.drewN n).setCell 9 ↑true
  simpa [acQ] using this
 have hK:∀ n,AaA (· = sb) w ((w.drewN n).setCell ⟨sb,9,none⟩ ↑true):=λ n=>((AaA.refl (· = sb) w).drewN n).setCell (p:=⟨sb,9,none⟩) (.inl rfl) _
 replace ⟨hB,hK,a0⟩:=yh3 hB hK a0;clear h hs hlt
 go_enter Tryz.func57,Tryz.ntmps57
 go_wp2_with (go_at_call 69;refine a0.out.mono ?_;rintro e w' ⟨rfl,m,rfl⟩;have a3:=a1 m)
 go_ret2
 exact ⟨w.heap.size+1,w.heap.size,rfl,Nat.le_succ _,aEK _,by omega,by
  have:=Blk.new (((w.drewN m).setCell ⟨sb,9,none⟩ ↑true).alloc (mapO [] 0)) (txO sb w.heap.size 0 false)
  rw [aEI,aES] at this
  exact this,((by
  have:=AcH.new ((w.drewN m).setCell ⟨sb,9,none⟩ ↑true)
  rw [aES] at this
  exact this:AcH (((w.drewN m).setCell ⟨sb,9,none⟩ ↑true).alloc (mapO [] 0)) w.heap.size [] 0)).keeps ((AaA.refl NoF _).alloc _) (λ _ _ f=>f),((hB.out m).alloc _).alloc _,((hK.out m).alloc _).alloc _⟩
end
section
variable {w:World} {C:TxC} {D:DM} {own:List OEnt} {xc sp:Nat} {X:Nat->Prop}
theorem axJ (h:TxAt w C D own xc sp false X) (h0:aaT D C.G.life sp false=0):Calls prog 137 #[↑C.t,I 50] w λ e w'=>
  ∃ m,e=U (I 50)/\w'=(w.drewN m).setCell ⟨C.t,2,none⟩ (I (50:Nat)):=by
 have hst:=aiP h.ht h.hs h.hd
 rw [h0] at hst
 have a0:=λ n=>(h.ht.drewN n).frz 2
 have c2:=h.ht.cell 2
 simp at c2
 replace hst:=hid hst;clear h h0
 go_enter Tryz.func137,Tryz.ntmps137
 go_wp2_with (go_at_call 85;refine hst.out.mono ?_;rintro e w' ⟨rfl,m,rfl⟩;have a1:=a0 m)
 go_ret
 exact ⟨m,rfl,rfl⟩
end
end Go.Vk
