/- Part of the proof: Na6 Na7 Nn1 Nn2. -/
import Derived.Test.YtjeelghnmkefcaaGreatQ25
import Derived.Test.YtjeelghnmkefcaaGreatQ27
set_option linter.unusedVariables false
set_option maxHeartbeats 16000000
set_option maxRecDepth 100000
namespace Go.Vk
open Go.RowKit Go.Proofs
open Tryz (prog)
def dC (n:Nd) (k:Nat):List Value:=(n.kind :: n.links :: n.parent :: n.size :: n.owned :: (n.ptr.take k++List.replicate (12 - k) 0)).map (.int .i64)
theorem aB8 {n:Nd} (h:n.ptr.length=12):dC n 12=ndC n:=by
 unfold dC ndC ndL
 rw [aEO (by omega)]
 simp
theorem aDV {n:Nd} (h:n.ptr.length=12) {k:Nat} (hk:k<12):(dC n k).set (5+k) (I (n.ptr[k]'(by omega)))=dC n (k+1):=by
 unfold dC
 rw [← List.map_set]
 congr 1
 rw [Nat.add_comm 5 k]
 simp only [List.set_cons_succ]
 congr 5
 have hl:(n.ptr.take k).length=k:=by rw [aEM];omega
 rw [List.set_append_right _ _ (by omega),hl,Nat.sub_self,aE6 (by omega),aEQ]
 congr 1
 rw [show 12 - k=(12 - (k+1))+1 by omega,List.replicate_succ]
 rfl
theorem aDX (n:Nd) {k:Nat} (hk:k<12) (h:n.ptr.length=12):(dC n k)[5+k]? = some (I 0):=by
 unfold dC
 rw [aEZ,Nat.add_comm 5 k]
 simp only [List.getElem?_cons_succ]
 have hl:(n.ptr.take k).length=k:=by rw [aEM];omega
 rw [List.getElem?_append_right (by omega),hl,Nat.sub_self,List.getElem?_replicate,if_pos (by omega)]
 rfl
theorem awE {n:Nd} (h:n.ptr.length=12) {k:Nat} (hk:k<=12):(dC n k).length=17:=by
 simp [dC,h];omega
theorem aDW (n:Nd) (k:Nat):∀ v∈dC n k,v.oneCell'=true:=by
 intro v hv
 obtain ⟨x,_,rfl⟩:=List.mem_map.1 hv
 rfl
theorem AcM.bounds {bs:List UInt8} (h:AcM bs):fld bs 0 2<=3/\fld bs 2 2<=64/\fld bs 4 4<=1024/\fld bs 8 8<=8459264/\fld bs 16 8<=2048/\∀ i,i<12->fld bs (24+4*i) 4<=2048:=by
 have hp:∀ i (hi:i<12),((fld bs (24+4*i) 4:Nat):Int)∈(decN bs).ptr:=λ i hi=>by
  unfold decN
  exact List.mem_map.2 ⟨i,List.mem_range.2 hi,rfl⟩
 rcases h.1 with h|h
 ·have a0:=congrArg Nd.kind h
  have a1:=congrArg Nd.links h
  have a2:=congrArg Nd.parent h
  have a3:=congrArg Nd.size h
  have a4:=congrArg Nd.owned h
  simp only [decN,Nd.zero] at a0 a1 a2 a3 a4
  refine ⟨by omega,by omega,by omega,by omega,by omega,λ i hi=>?_⟩
  have:=hp i hi
  rw [h] at this
  have:=(List.mem_replicate.1 this).2
  omega
 ·have a0:=h.k
  have a1:=h.l
  have a3:=h.s
  have a4:=h.o
  have a2:(decN bs).parent<=1024:=by
   by_cases e:(decN bs).kind=2
   ·exact (h.d e).2
   ·have:=h.p e;omega
  simp only [decN] at a0 a1 a2 a3 a4
  refine ⟨by omega,by omega,by omega,by omega,by omega,λ i hi=>?_⟩
  have:=h.q _ (hp i hi)
  omega
theorem aB7 (w:World) (qb vb g off cap:Nat) (src:List UInt8) (hq:Blk w qb (.cells #[.slice (some ⟨g,off,none⟩) 128 cap] 40 (0,0))) (hv:Blk w vb (ndO Nd.zero)) (hg:Blk w g (aaE src))
  (h1:qb≠vb) (h2:g≠vb) (ag:128<=cap) (hc:cap<=1048576) (hs:off+128<=src.length) :
  Calls prog 231 #[↑qb,↑vb] w (Aw3 w vb ((src.drop off).take 128)):=by
 obtain ⟨bs,a2⟩:∃ bs,(src.drop off).take 128=bs:=⟨_,rfl⟩
 have ah:bs.length=128:=by rw [← a2,aEM,aET];omega
 rw [a2]
 have a0:¬ AcM bs->∀ w',AaA (· = vb) w w'->Aw3 w vb bs aq2 w':=λ h w' k=>⟨k,.inr ⟨h,rfl⟩⟩
 have a3:AcM bs->∀ w',AaA (· = vb) w w'->Blk w' vb (ndO (decN bs))->Aw3 w vb bs (U (.tuple #[])) w':=λ h w' k b=>⟨k,.inl ⟨h,rfl,b⟩⟩
 generalize Aw3 w vb bs=Post at *
 have hS0:DecS w (w.alloc (.cells #[.slice (some ⟨g,off,none⟩) 128 cap,I 0] 231 (0,0))) w.heap.size vb g qb off cap 0 src (ndC Nd.zero):=by
  have l1:=hq.lt
  have l2:=hv.lt
  have l3:=hg.lt
  have q0:=hq.cell 0
  simp at q0
  exact ⟨Blk.new w _,hv.alloc _,hg.alloc _,aaU q0 _,(AaA.refl _ w).alloc _,by omega,by omega,h2,by omega,h1,aEK _,ag,hc,hs⟩
 have q0:=hq.cell 0
 simp at q0
 replace ⟨a0,a3,hS0,a2⟩:=yh4 a0 a3 hS0 a2;clear hq hv hg ah
 go_enter Tryz.func231,Tryz.ntmps231
 go_upto_region 1 with fail
 replace hS0:=hS0.out
 generalize w.alloc (.cells #[.slice (some ⟨g,off,none⟩) 128 cap,I 0] 231 (0,0))=w1 at hS0 ⊢
 generalize w.heap.size=rb at hS0 ⊢
 clear q0
 replace hS0:=hid hS0
 go_wp2_with fail
 refine (hS0.out.num 2 3 (by decide) (by decide) (by decide) (by decide)).mono ?_
 rintro e w2 ⟨he,S1⟩
 rw [a2.out] at he
 rcases he with ⟨c0,rfl⟩|⟨c0,rfl⟩
 rotate_left
 ·exact ⟨rfl,a0.out (λ h=>c0 h.bounds.1) w2 S1.k⟩
 clear hS0
 clear w1
 replace S1:=hid S1;clear c0
 go_wp2_with fail
 refine (S1.out.num 2 64 (by decide) (by decide) (by decide) (by decide)).mono ?_
 rintro e w3 ⟨he,S2⟩
 rw [a2.out] at he
 rcases he with ⟨c1,rfl⟩|⟨c1,rfl⟩
 rotate_left
 ·exact ⟨rfl,a0.out (λ h=>c1 h.bounds.2.1) w3 S2.k⟩
 clear S1
 clear w2
 replace S2:=hid S2;clear c1
 go_wp2_with fail
 refine (S2.out.num 4 1024 (by decide) (by decide) (by decide) (by decide)).mono ?_
 rintro e w4 ⟨he,S3⟩
 rw [a2.out] at he
 rcases he with ⟨c2,rfl⟩|⟨c2,rfl⟩
 rotate_left
 ·exact ⟨rfl,a0.out (λ h=>c2 h.bounds.2.2.1) w4 S3.k⟩
 clear S2
 clear w3
 replace S3:=hid S3;clear c2
 go_wp2_with fail
 refine (S3.out.num 8 8459264 (by decide) (by decide) (by decide) (by decide)).mono ?_
 rintro e w5 ⟨he,S4⟩
 rw [a2.out] at he
 rcases he with ⟨c3,rfl⟩|⟨c3,rfl⟩
 rotate_left
 ·exact ⟨rfl,a0.out (λ h=>c3 h.bounds.2.2.2.1) w5 S4.k⟩
 clear S3
 clear w4
 replace S4:=hid S4;clear c3
 go_wp2_with fail
 refine (S4.out.num 8 2048 (by decide) (by decide) (by decide) (by decide)).mono ?_
 rintro e w6 ⟨he,S5⟩
 rw [a2.out] at he
 rcases he with ⟨c4,rfl⟩|⟨c4,rfl⟩
 rotate_left
 ·exact ⟨rfl,a0.out (λ h=>c4 h.bounds.2.2.2.2.1) w6 S5.k⟩
 clear S4
 clear w5
 replace S5:=hid S5;clear c4
 dsimp only
 go_step
 refine abT rfl _ _ rfl (.agg (dC (decN bs) 0).toArray) w6 (by kernel_rfl) ?_
 refine aaL rfl 39 (.tmp 1) (.tmp 19) rfl vb 0 39 (ndC Nd.zero) (dC (decN bs) 0) rfl rfl S5.out.bv (by rw [awE (abZ bs) (by decide)];decide) (by rw [awE (abZ bs) (by decide)];exact aaK) (aDW _ _) ?_
 intro w7 ac hk7 _
 rw [aa4 (by rw [awE (abZ bs) (by decide)];rfl)] at ac
 have S6:=S5.out.to hk7 ac
 rw [show 0+2+2+4+8+8=24+4*0 from rfl] at S6
 clear ac hk7 S5
 have hp:=abZ bs
 have a8:∀ i (hi:i<12),(decN bs).ptr[i]'(by rw [hp];exact hi)=((fld bs (24+4*i) 4:Nat):Int):=λ i hi=>by simp [decN]
 have a4:=λ k (hk:k<12)=>aDV hp hk
 have a9:=λ k (hk:k<12)=>aDX (decN bs) hk hp
 have a6:=aB8 hp
 replace ⟨S6,hp,a8,a4,a9,a6⟩:=yh6 S6 hp a8 a4 a9 a6
 go_wp2
 go_loopw [20] (λ i wr=>∃ k:Nat,k<=10/\i=I k/\DecS w wr rb vb g qb off cap (24+4*k) src (dC (decN bs) k)) (λ i _=>10 - (intOf i).toNat)
 case atStart=>exact ⟨0,by omega,rfl,S6.out⟩
 case round=>
  obtain ⟨k,hk1,rfl,S7⟩:=hrel
  clear S6
  by_cases hlt:k<10
  ·have ae:(k:Int)<10:=by omega
   replace S7:=hid S7
   go_wp2_with fail
   refine (S7.out.num 4 2048 (by decide) (by decide) (by omega) (by decide)).mono ?_
   rintro e w8 ⟨he,S8⟩
   rw [a2.out] at he
   rcases he with ⟨c8,rfl⟩|⟨c8,rfl⟩
   rotate_left
   ·exact ⟨rfl,a0.out (λ h=>c8 (h.bounds.2.2.2.2.2 k (by omega))) w8 S8.k⟩
   have aa:=S8.cell (a9.out k (by omega))
   have ab:=S8.bv.frz
   have hst:=S8.set (5+k) (I ((decN bs).ptr[k]'(by rw [hp.out];omega)))
   rw [a4.out k (by omega),a8.out k (by omega),show 24+4*k+4=24+4*(k+1) by omega] at hst
   have ai:((k:Nat):Int)<10:=ae
   clear S7
   replace ⟨S8,hst,c8⟩:=yh3 S8 hst c8
   go_wp2
   exact ⟨⟨k+1,by omega,by go_num,hst.out⟩,by simp [intOf];omega⟩
  ·have ae:¬ (k:Int)<10:=by omega
   obtain rfl:k=10:=by omega
   replace S7:=hid S7
   go_wp2_with fail
   refine (S7.out.num 4 2048 (by decide) (by decide) (by decide) (by decide)).mono ?_
   rintro e w8 ⟨he,S8⟩
   rw [a2.out] at he
   rcases he with ⟨c8,rfl⟩|⟨c8,rfl⟩
   rotate_left
   ·exact ⟨rfl,a0.out (λ h=>c8 (h.bounds.2.2.2.2.2 10 (by decide))) w8 S8.k⟩
   have aa:=S8.cell (a9.out 10 (by decide))
   have ab:=S8.bv.frz
   have hst:=S8.set (5+10) (I ((decN bs).ptr[10]'(by rw [hp.out];decide)))
   rw [a4.out 10 (by decide),a8.out 10 (by decide),show 24+4*10+4=24+4*(10+1) from rfl] at hst
   clear S7
   replace hst:=hid hst;clear S8 c8
   go_wp2_with fail
   refine (hst.out.num 4 2048 (by decide) (by decide) (by decide) (by decide)).mono ?_
   rintro e w9 ⟨he,S9⟩
   rw [a2.out] at he
   clear aa ab hst
   rcases he with ⟨c9,rfl⟩|⟨c9,rfl⟩
   rotate_left
   ·exact ⟨rfl,a0.out (λ h=>c9 (h.bounds.2.2.2.2.2 11 (by decide))) w9 S9.k⟩
   have aa:=S9.cell (a9.out 11 (by decide))
   have ab:=S9.bv.frz
   have hst:=S9.set (5+11) (I ((decN bs).ptr[11]'(by rw [hp.out];decide)))
   rw [a4.out 11 (by decide),a8.out 11 (by decide),a6.out] at hst
   replace hst:=hid hst;clear S9 c9
   go_upto_region 9 with fail
   clear aa ab
   replace hst:=hst.out
   simp only [Nat.reduceAdd,Nat.reduceMul] at hst
   generalize w9.setCell ⟨vb,16,none⟩ (I ((fld bs 68 4:Nat):Int))=w10 at hst ⊢
   obtain ⟨d,ud,hd⟩:=acJ
   have ad:=abR (abZ bs)
   have hE:=ajM w10 (abZ bs)
   unfold ndV at hE
   replace ⟨hst,ud,hd,ad,hE⟩:=yh5 hst ud hd ad hE
   go_step
   refine aaN rfl 39 (.tmp 1) rfl vb 0 39 (ndC (decN bs)) 17 d rfl hst.out.bv (by rw [aaM (abZ bs)];decide) ud.out hd.out aaK ?_
   rw [ad.out]
   generalize (ndC (decN bs)).toArray=av at *
   go_wp2_with fail
   refine hE.out.mono ?_
   rintro e w11 ⟨k11,hX⟩
   have q11:=k11.cellF hst.out.cq (λ f=>f)
   have b11:=k11.blk hst.out.bv (λ f=>f)
   have s11:=k11.blk hst.out.bg (λ f=>f)
   have kA:=hst.out.k.step (k11.mono λ _ _ f=>f.elim)
   clear k11 hE
   have hlt:=hst.out.hs
   rcases hX with ⟨a1,gE,af,rfl,hB⟩|⟨a1,rfl⟩
   ·have a5:=an6 w11 gE 0 128 128 g off 128 cap (encN (decN bs)) src hB s11 (by rw [aeJ _ (abZ bs)];decide) hlt
    rw [aER,aEO (by rw [aeJ _ (abZ bs)];decide),a2.out] at a5
    by_cases a7:encN (decN bs)=bs
    ·rw [decide_eq_true a7] at a5
     have hP:=a3.out ⟨a1,a7⟩ w11 kA b11
     clear af hB
     replace ⟨a5,hP,a7,a1,kA,b11,s11⟩:=yh7 a5 hP a7 a1 kA b11 s11
     go_wp2_with (first|(go_at_call 169;refine a5.out.mono ?_;rintro e w8 ⟨rfl,rfl⟩)|(go_at_call 215;refine (ar5 _ true).mono ?_;rintro e w8 ⟨rfl,rfl⟩))
     go_end0
     exact hP.out
    ·rw [decide_eq_false a7] at a5
     have hP:=a0.out (λ h=>a7 h.2) w11 kA
     clear af hB
     replace ⟨a5,hP,a1,kA,b11,s11⟩:=yh6 a5 hP a1 kA b11 s11;clear a7
     go_wp2_with (first|(go_at_call 169;refine a5.out.mono ?_;rintro e w8 ⟨rfl,rfl⟩)|(go_at_call 215;refine (ar5 _ false).mono ?_;rintro e w8 ⟨rfl,rfl⟩))
     exact ⟨rfl,hP.out⟩
   ·have hP:=a0.out (λ h=>a1 h.1) w11 kA
    replace hP:=hid hP;clear a1 kA b11 s11
    go_wp2_with (go_at_call 215;refine (ar5 _ false).mono ?_;rintro e w8 ⟨rfl,rfl⟩)
    exact ⟨rfl,hP.out⟩
theorem acK {P:Program} {fn:Func} {p q:Tmp} {ty:TypeId} (h:fn.results=#[.cell p ty,.tmp q]) (tmps:Array Value) (w:World) (g:Nat) (T:TypeId) (cs:List Value) (d:TypeDesc) (v:Value)
  (hp:tmps.getD p undef=↑g) (hq:tmps.getD q undef=v) (hg:Blk w g (.cells cs.toArray T (0,0)))
  (hu:P.underlying ty=some d) (hd:d.isRow=true) (hi:(P.info? ty).map (·.size)=some cs.length) :
  (results fn tmps).run P w=.ok (.tuple #[.agg cs.toArray,v]) w:=by
 have a0:tmps[p]?.getD undef=↑g:=by simpa using hp
 have a1:tmps[q]?.getD undef=v:=by simpa using hq
 have hr:=run_loadVar_row (P:=P) w g T ty cs.toArray (0,0) d hg hu (by cases d<;>simp_all [TypeDesc.isRow]) (by simpa using hi)
 simp [results,h,a0,a1,asAddr,hr]
theorem abI (w:World):(Instr.alloc 39 true (.tuple #[])).run prog w=.ok ↑w.heap.size (w.alloc (ndO Nd.zero)):=by kernel_rfl
def Ah3 (w:World) (bs:List UInt8) (e:Ending) (w':World):Prop:=
 AaA NoF w w'/\(AcM bs/\e=U (.tuple #[ndV (decN bs),I 0])∨¬ AcM bs/\e=U (.tuple #[ndV Nd.zero,I 6]))
theorem apR (w:World) (g off cap:Nat) (src:List UInt8) (hg:Blk w g (aaE src)) (ai:128<=cap) (hc:cap<=1048576) (hs:off+128<=src.length) :
  Calls prog 201 #[.slice (some ⟨g,off,none⟩) 128 cap] w (Ah3 w ((src.drop off).take 128)):=by
 obtain ⟨bs,aa⟩:∃ bs,(src.drop off).take 128=bs:=⟨_,rfl⟩
 have a0:AcM bs->∀ w',AaA NoF w w'->Ah3 w bs (U (.tuple #[ndV (decN bs),I 0])) w':=λ h w' k=>⟨k,.inl ⟨h,rfl⟩⟩
 have a1:¬ AcM bs->∀ w',AaA NoF w w'->Ah3 w bs (U (.tuple #[ndV Nd.zero,I 6])) w':=λ h w' k=>⟨k,.inr ⟨h,rfl⟩⟩
 rw [aa]
 generalize Ah3 w bs=Post at *
 have hlt:=hg.lt
 obtain ⟨d,ud,hd⟩:=acJ
 replace ⟨hg,aa,hlt,ud,hd,a0,a1⟩:=yh7 hg aa hlt ud hd a0 a1
 go_enter Tryz.func201,Tryz.ntmps201
 go_wp2_with fail
 have a7:=((Blk.new w (.cells #[.slice (some ⟨g,off,none⟩) 128 cap] 40 (0,0))).alloc (ndO Nd.zero)).alloc (ndO Nd.zero)
 have a3:=(Blk.new (w.alloc (.cells #[.slice (some ⟨g,off,none⟩) 128 cap] 40 (0,0))) (ndO Nd.zero)).alloc (ndO Nd.zero)
 have hv3:=Blk.new ((w.alloc (.cells #[.slice (some ⟨g,off,none⟩) 128 cap] 40 (0,0))).alloc (ndO Nd.zero)) (ndO Nd.zero)
 have ab:=((hg.out.alloc (.cells #[.slice (some ⟨g,off,none⟩) 128 cap] 40 (0,0))).alloc (ndO Nd.zero)).alloc (ndO Nd.zero)
 have a8:=(((AaA.refl NoF w).alloc (.cells #[.slice (some ⟨g,off,none⟩) 128 cap] 40 (0,0))).alloc (ndO Nd.zero)).alloc (ndO Nd.zero)
 have hs3:(((w.alloc (.cells #[.slice (some ⟨g,off,none⟩) 128 cap] 40 (0,0))).alloc (ndO Nd.zero)).alloc (ndO Nd.zero)).heap.size=w.heap.size+1+1+1:=by simp only [aEI]
 simp only [aEI] at a3 hv3
 change Calls _ _ _ (((w.alloc (.cells #[.slice (some ⟨g,off,none⟩) 128 cap] 40 (0,0))).alloc (ndO Nd.zero)).alloc (ndO Nd.zero)) _
 generalize ((w.alloc (.cells #[.slice (some ⟨g,off,none⟩) 128 cap] 40 (0,0))).alloc (ndO Nd.zero)).alloc (ndO Nd.zero)=w3 at a7 a3 hv3 ab a8 hs3 ⊢
 have ae:=hlt.out
 have ah:w.heap.size≠w.heap.size+1+1:=by omega
 have a9:g≠w.heap.size+1+1:=by omega
 generalize a6:w.heap.size=qb at a7 a3 hv3 hs3 ah a9 ae ⊢
 have ac:∀ w4,AaA NoF w3 w4->Calls prog 231 #[↑qb,.pointer (some ⟨qb+1+1,0,none⟩)] w4 (Aw3 w4 (qb+1+1) bs):=λ w4 a4=>by
  have:=aB7 w4 qb (qb+1+1) g off cap src (a4.blk a7 (λ f=>f)) (a4.blk hv3 (λ f=>f)) (a4.blk ab (λ f=>f)) ah a9 ai hc hs
  rwa [aa.out] at this
 by_cases ad:AcM bs
 ·have a0:=a0.out ad
  clear a1
  refine (anD w3 231 #[↑qb,.pointer (some ⟨qb+1+1,0,none⟩)] (λ w'=>Blk w' (qb+1+1) (ndO (decN bs))) (· = qb+1+1) (λ w=>by kernel_rfl) ?_ ?_ ?_).mono ?_
  ·intro w4 aj a4
   refine (ac w4 a4).mono ?_
   rintro e w5 ⟨k5,h5⟩
   rcases h5 with ⟨_,rfl,h5⟩|⟨h5,_⟩
   ·exact ⟨rfl,h5,k5⟩
   ·exact absurd ad h5
  ·rw [hs3];omega
  ·intro w4 h4;exact h4.setCell_ne (by show qb+1+1≠w3.heap.size;rw [hs3];omega) _
  rintro e w5 ⟨rfl,af,k5⟩
  have a5:=k5.blk a3 (by omega)
  have hk5:=a8.fresh k5 (by intro i hi;omega)
  clear k5 a8 a7 a3 hv3 ab hs3 ac
  clear w3
  replace ⟨af,a5,hk5,a6,a0⟩:=yh5 af a5 hk5 a6 a0
  go_upto_region 7 with fail
  go_step
  refine aaN rfl 39 (.tmp 4) rfl (qb+1+1) 0 39 (ndC (decN bs)) 17 d rfl af.out (by rw [aaM (abZ bs)];decide) ud.out hd.out aaK ?_
  rw [abR (abZ bs)]
  refine aaL rfl 39 (.tmp 2) (.tmp 16) rfl (qb+1) 0 39 (ndC Nd.zero) (ndC (decN bs)) rfl rfl a5.out (by rw [aaM (abZ bs)];decide) (by rw [aaM (abZ bs)];exact aaK) (abJ _) ?_
  intro w6 a2 ag _
  rw [aa4 (by rw [aaM (abZ bs)];rfl)] at a2
  have hP:=a0.out w6 (hk5.out.fresh ag (λ i hi=>by have:=a6.out;omega))
  replace ⟨a2,hP⟩:=yh2 a2 hP
  go_wp2
  exact bodyPost_ret (v:=.tuple #[ndV (decN bs),I 0]) (acK rfl _ _ (qb+1) 39 (ndC (decN bs)) d _ rfl rfl a2.out ud.out hd.out (by rw [aaM (abZ bs)];exact aaK)) rfl hP.out
 ·have a1:=a1.out ad
  clear a0
  refine (aq0 w3 231 #[↑qb,.pointer (some ⟨qb+1+1,0,none⟩)] (· = qb+1+1) (λ w=>by kernel_rfl) ?_ ?_).mono ?_
  ·intro w4 aj a4
   refine (ac w4 a4).mono ?_
   rintro e w5 ⟨k5,h5⟩
   rcases h5 with ⟨h5,_⟩|⟨_,rfl⟩
   ·exact absurd h5 ad
   ·exact ⟨rfl,k5⟩
  ·rw [hs3];omega
  rintro e w5 ⟨rfl,k5⟩
  have a5:=k5.blk a3 (by omega)
  have hk5:=a8.fresh k5 (by intro i hi;omega)
  clear k5 a8 a7 a3 hv3 ab hs3 ac
  clear w3
  replace ⟨a5,hk5,a6,a1⟩:=yh4 a5 hk5 a6 a1
  go_upto_region 6 with fail
  go_step
  refine abT rfl _ _ rfl (.agg (ndC Nd.zero).toArray) w5 (by kernel_rfl) ?_
  refine aaR rfl _ _ (by go_simp;exact ⟨rfl,rfl⟩) ?_
  simp only [wz]
  refine aaL rfl 39 (.tmp 2) (.tmp 14) rfl (qb+1) 0 39 (ndC Nd.zero) (ndC Nd.zero) rfl rfl a5.out (by decide) aaK (abJ _) ?_
  intro w6 a2 ag _
  rw [aa4 rfl] at a2
  have hP:=a1.out w6 (hk5.out.fresh ag (λ i hi=>by have:=a6.out;omega))
  replace ⟨a2,hP⟩:=yh2 a2 hP
  go_wp2
  exact bodyPost_ret (v:=.tuple #[ndV Nd.zero,I 6]) (acK rfl _ _ (qb+1) 39 (ndC Nd.zero) d _ rfl rfl a2.out ud.out hd.out aaK) rfl hP.out
def errV (c:Nat):Value:=.iface 63 (I c)
def endE (c:Nat) (e:Ending):Prop:=(c=0/\e=U (.tuple #[]))∨(c≠0/\e=.panicked [{ v:=errV c,recovered:=false }])
def tabO (p:Nat):Obj:=.cells #[↑p] 87 (0,0)
theorem akF (w:World):Calls prog 103 #[I 0] w λ e w'=>e=U (.tuple #[])/\w=w':=by
 go_enter Tryz.func103,Tryz.ntmps103
 go_wp2
 go_end0
 exact ⟨rfl,rfl⟩
theorem ajH (w:World) (c:Nat) (h:c≠0):Calls prog 103 #[I c] w λ e w'=>e=.panicked [{ v:=errV c,recovered:=false }]/\w=w':=by
 have hi:((c:Int) != 0)=true:=by simp;exact h
 unfold errV
 go_enter Tryz.func103,Tryz.ntmps103
 go_wp2
 exact ⟨rfl,rfl,rfl⟩
theorem aBB (p q:Addr) (w:World):CallsD prog 136 #[.pointer (some p),.pointer (some q)] .returning w λ e u' w'=>e=U (.tuple #[])/\u'=.returning/\w'=w:=by
 have a1:(binOp BinOp.eql 20 .nilIface .nilIface).run prog w=.ok ↑true w:=by kernel_rfl
 refine callsD_of_wpS Tryz.func136 rfl λ c₀ cs hu=>?_
 apply wpS_seq
 apply wpS_region
 generalize a0:Code.wpS _ _=cont
 simp [wpOpsS,go_sem,recoverD,hu,Tryz.ntmps136,Exit.thenS]
 subst a0
 refine wpS_of_wp ?_
 rw [show (#[Value.pointer (some p),.pointer (some q)]++(Array.replicate 23 undef).setIfInBounds 3 Value.nilIface)=#[.pointer (some p),.pointer (some q),undef,undef,undef,Value.nilIface,undef,undef,undef,undef,undef,undef,undef,undef,undef,undef,undef,undef,undef,undef,undef,undef,undef,undef,undef] from by kernel_rfl]
 go_wp2
 cases c₀
 simp_all [bodyPostS,results,Tryz.results136]
section
variable {w:World} {C:TxC} {T:TS} {X:Nat->Prop} {p tab eb eb2 tb2 c:Nat} {x:Int}
def Ak3 (w:World) (C:TxC) (T:TS) (X:Nat->Prop) (eb c:Nat) (w':World):Prop:=Blk w' eb (errO c)/\Aa6 w' C (T.thrown c) X/\AaA (λ i=>KF C i∨i=eb) w w'
theorem ao8 (h:Aa6 w C T X) (hb:Blk w eb (errO x)) (hX:X eb) (h2:w.cell? ↑eb2=some ↑eb) (a3:eb2≠eb) (a2:c≠0) (hc:c≠6) :
  CallsD prog 136 #[↑eb2,↑tb2] (.panicking [{ v:=errV c,recovered:=false }]) w λ e u' w'=>
   e=U (.tuple #[])/\u'=.panicking [{ v:=errV c,recovered:=true }]/\Ak3 w C T X eb c w':=by
 have a4:∀ w,(binOp BinOp.eql 20 (.iface 63 (I (c:Int))) .nilIface).run prog w=.ok ↑false w:=λ w=>by kernel_rfl
 have a5:∀ w,(Instr.typeAssert (.iface 63 (I (c:Int))) 20 63 true).run prog w=.ok (.tuple #[I (c:Int),↑true]) w:=by intro w;kernel_rfl
 have a6:((c:Int) == 6)=false:=by rw [aE2];simp;omega
 have hP:Ak3 w C T X eb c (w.setCell ↑eb (I c)):=by
  have k:AaA (· = eb) w (w.setCell ↑eb (I c)):=(AaA.refl (· = eb) w).setCell (p:=⟨eb,0,none⟩) (.inl rfl) _
  have hb':=hb.setCell 0 (I c)
  refine ⟨by simpa [errO] using hb',?_,k.mono λ i _ e=>.inr e⟩
  unfold TS.thrown
  rw [if_neg hc]
  exact h.grow k (λ i _ e=>e ▸ hX) (λ i hi=>⟨aEJ (h.lt i hi) k.size,.inl hi⟩)
 have a1:=hb.cell 0
 have hz:=hb.frz 0
 unfold errO at a1
 simp at a1
 unfold errV
 replace hP:=hid hP;clear h hb a2 hc
 refine callsD_of_wpS Tryz.func136 rfl λ c₀ cs hu=>?_
 apply wpS_seq
 apply wpS_region
 generalize a0:Code.wpS _ _=cont
 simp [wpOpsS,go_sem,recoverD,hu,Tryz.ntmps136,Exit.thenS]
 subst a0
 refine wpS_of_wp ?_
 rw [show (#[Value.pointer (some ⟨eb2,0,none⟩),↑tb2]++(Array.replicate 23 undef).setIfInBounds 3 (.iface 63 (I (c:Int))))=#[↑eb2,↑tb2,undef,undef,undef,(.iface 63 (I (c:Int))),undef,undef,undef,undef,undef,undef,undef,undef,undef,undef,undef,undef,undef,undef,undef,undef,undef,undef,undef] from by kernel_rfl]
 go_wp2
 simp [bodyPostS,results,Tryz.results136]
 exact hP.out
theorem anA (h:Aa6 w C T X) (hb:Blk w eb (errO x)) (hX:X eb) (h2:w.cell? ↑eb2=some ↑eb) (a7:eb2≠eb)
  (h3:w.cell? ↑tb2=some ↑tab) (a1:tb2≠eb) (h4:Blk w tab (tabO p)) (a2:tab≠eb) (h5:Blk w p (ab3 C.t)) (a3:p≠eb) :
  CallsD prog 136 #[↑eb2,↑tb2] (.panicking [{ v:=errV 6,recovered:=false }]) w λ e u' w'=>
   e=U (.tuple #[])/\u'=.panicking [{ v:=errV 6,recovered:=true }]/\Ak3 w C T X eb 6 w':=by
 have a8:∀ w,(binOp BinOp.eql 20 (.iface 63 (I 6)) .nilIface).run prog w=.ok ↑false w:=λ w=>by kernel_rfl
 have a9:∀ w,(Instr.typeAssert (.iface 63 (I 6)) 20 63 true).run prog w=.ok (.tuple #[I 6,↑true]) w:=by intro w;kernel_rfl
 have k:AaA (· = eb) w (w.setCell ↑eb (I 6)):=(AaA.refl (· = eb) w).setCell (p:=⟨eb,0,none⟩) (.inl rfl) _
 have hb':Blk (w.setCell ↑eb (I 6)) eb (errO 6):=by
  have:=hb.setCell 0 (I 6)
  simpa [errO] using this
 have h':Aa6 (w.setCell ↑eb (I 6)) C T X:=h.grow k (λ i _ e=>e ▸ hX) (λ i hi=>⟨aEJ (h.lt i hi) k.size,.inl hi⟩)
 have h3':=k.cellF h3 a1
 have h4':=(k.blk h4 a2).cell 0
 have h5':=(k.blk h5 a3).cell 0
 unfold tabO at h4'
 unfold ab3 at h5'
 simp at h4' h5'
 have a4:=h'.spoilN 6
 have hfin:∀ w',Aa6 w' C (T.spoilN 6).2 X->AaA (KF C) (w.setCell ↑eb (I 6)) w'->Ak3 w C T X eb 6 w':=λ w' a b=>
  ⟨h'.blk b hb' hX,by unfold TS.thrown;rw [if_pos rfl];exact a,(k.mono (F:=(· = eb)) (G:=λ i=>KF C i∨i=eb) λ i _ e=>.inr e).trans b (λ i _ e=>.inl e)⟩
 have a5:=hb.cell 0
 have hz:=hb.frz 0
 unfold errO at a5
 simp at a5
 have a6:errV 6=.iface 63 (I 6):=rfl
 rw [a6]
 generalize hW:w.setCell ↑eb (I 6)=W at *
 replace ⟨a4,hfin⟩:=yh2 a4 hfin;clear h hb hb' h' k h4 h5 h3
 refine callsD_of_wpS Tryz.func136 rfl λ c₀ cs hu=>?_
 apply wpS_seq
 apply wpS_region
 generalize a0:Code.wpS _ _=cont
 simp [wpOpsS,go_sem,recoverD,hu,Tryz.ntmps136,Exit.thenS]
 subst a0
 refine wpS_of_wp ?_
 rw [show (#[Value.pointer (some ⟨eb2,0,none⟩),↑tb2]++(Array.replicate 23 undef).setIfInBounds 3 (.iface 63 (I 6)))=#[↑eb2,↑tb2,undef,undef,undef,(.iface 63 (I 6)),undef,undef,undef,undef,undef,undef,undef,undef,undef,undef,undef,undef,undef,undef,undef,undef,undef,undef,undef] from by kernel_rfl]
 go_wp2_with (go_at_call 137;refine a4.out.mono ?_;rintro e w' ⟨rfl,s1,s2⟩;have hF:=hfin.out _ s1 s2;clear s1 s2;replace hF:=hid hF)
 simp [bodyPostS,results,Tryz.results136]
 exact hF.out
end
section
variable {w:World} {C:TxC} {T T0:TS} {X G:Nat->Prop} {p tab eb c:Nat} {R:World->Prop}
theorem Aa6.wider (h:Aa6 w C T X) {w':World} (k:AaA NoF w w'):Aa6 w' C T (λ i=>X i∨w.heap.size<=i/\i<w'.heap.size):=
 h.grow k (λ _ _ f=>f.elim) (λ i hi=>hi.elim (λ x=>⟨aEJ (h.lt i x) k.size,.inl x⟩) (λ x=>⟨x.2,.inr x.1⟩))
theorem Aa6.less (h:Aa6 w C T X) {Y:Nat->Prop} (hY:∀ i,Y i->X i):Aa6 w C T Y:=
 h.grow (AaA.refl NoF w) (λ _ _ f=>f.elim) (λ i hi=>⟨h.lt i (hY i hi),.inl (hY i hi)⟩)
def AnO (w:World) (C:TxC) (T':TS) (X G:Nat->Prop) (eb c:Nat) (R:World->Prop) (e:Ending) (w':World):Prop:=
 e=U (.tuple #[])/\Blk w' eb (errO c)/\Aa6 w' C T' X/\R w'/\AaA (λ i=>KF C i∨G i∨i=eb) w w'
theorem amA (h:Aa6 w C T X) (h0:T.st=0) (ht:Blk w tab (tabO p)) (hp:Blk w p (ab3 C.t)) (a8:Blk w eb (errO 0)) (xt:X tab) (xp:X p) (xe:X eb) (a9:tab≠eb) (aa:p≠eb)
  (k:FuncId) (caps:Array Value) (ah:∀ w,(callFunc k caps).run prog w=.ok (.enter k caps) w) (hG:∀ i,G i->X i/\i≠eb/\i≠tab/\i≠p)
  (ab:∀ w1,AaA NoF w w1->Aa6 w1 C T (λ i=>X i∨w.heap.size<=i/\i<w1.heap.size)->Calls prog k caps w1 λ e w'=>endE c e/\Aa6 w' C T0 (λ i=>X i∨w.heap.size<=i/\i<w1.heap.size)/\R w'/\AaA (λ i=>KF C i∨G i) w1 w')
  (hR:∀ w' w'',R w'->AaA (λ i=>KF C i∨i=eb) w' w''->R w'') :
  Calls prog 61 #[↑tab,↑eb,.func (.func k) #[] caps] w (AnO w C (T0.thrown c) X G eb c R):=by
 have ai:∀ (fn:Fn) (first cap:Array Value) (w:World),(Instr.makeFunc fn first cap).run prog w=.ok (.func fn first cap) w:=λ _ _ _ _=>rfl
 have l1:=h.lt _ xt
 have l2:=h.lt _ xp
 have l3:=h.lt _ xe
 have kA:AaA NoF w ((w.alloc (.cells #[↑tab] 27 (0,0))).alloc (.cells #[↑eb] 122 (0,0))):=((AaA.refl _ w).alloc _).alloc _
 have ae:=(Blk.new w (.cells #[↑tab] 27 (0,0))).alloc (.cells #[↑eb] 122 (0,0))
 have ac:=Blk.new (w.alloc (.cells #[↑tab] 27 (0,0))) (.cells #[↑eb] 122 (0,0))
 rw [aEI] at ac
 have hsz:((w.alloc (.cells #[↑tab] 27 (0,0))).alloc (.cells #[↑eb] 122 (0,0))).heap.size=w.heap.size+1+1:=by simp only [aEI]
 have p0:=(kA.blk ht (λ f=>f)).cell 0
 have q0:=(kA.blk hp (λ f=>f)).cell 0
 unfold tabO at p0
 unfold ab3 at q0
 simp at p0 q0
 have hS:=(h.wider kA).state
 rw [h0] at hS
 generalize ag:(w.alloc (.cells #[↑tab] 27 (0,0))).alloc (.cells #[↑eb] 122 (0,0))=wA at *
 have a0:=ae.cell 0
 have b0:=ac.cell 0
 simp at a0 b0
 have hPost:∀ w',Blk w' eb (errO c)->Aa6 w' C (T0.thrown c) X->R w'->AaA (λ i=>KF C i∨G i∨i=eb) w w'->AnO w C (T0.thrown c) X G eb c R (U (.tuple #[])) w':=λ w' a b d e=>⟨rfl,a,b,d,e⟩
 generalize AnO w C (T0.thrown c) X G eb c R=Post at hPost ⊢
 replace ⟨h,ht,hp,a8,kA,hsz,hS,ab⟩:=yh8 h ht hp a8 kA hsz hS ab;replace ⟨hR,hG,hPost,l3,a9,aa⟩:=yh6 hR hG hPost l3 a9 aa;clear h0 ae ac l1 l2
 go_enter_defers Tryz.func61,Tryz.ntmps61
 go_upto_region 2 with fail
 clear ag
 go_wp2_with (first
  | (go_at_call 85;refine hS.out.mono ?_;rintro e w1 ⟨rfl,s1,s2⟩;replace ⟨s1,s2⟩:=yh2 s1 s2)
  | (go_at_call 103;refine (akF _).mono ?_;rintro e w3 ⟨rfl,rfl⟩))
 have kB:=kA.out.step s2.out
 have a1:w.heap.size+1+1<=w1.heap.size:=by have:=s2.out.size;have:=hsz.out;omega
 refine (ab.out w1 kB (h.out.wider kB)).mono ?_
 rintro e w2 ⟨ad,a4,a6,k2⟩
 have a3:∀ i,(X i∨w.heap.size<=i/\i<w1.heap.size)->¬ KF C i:=λ i hi=>a4.notF hi
 have a7:∀ i,w.heap.size<=i->¬ G i:=λ i hi g=>by have:=h.out.lt i (hG.out i g).1;omega
 have a5:Blk w2 eb (errO 0):=k2.blk (kB.blk a8.out (λ f=>f)) (λ x=>x.elim (a3 eb (.inl xe)) (λ g=>(hG.out eb g).2.1 rfl))
 have kW:AaA (λ i=>KF C i∨G i∨i=eb) w w2:=(kB.mono (F:=λ _=>False) (G:=λ i=>KF C i∨G i∨i=eb) (λ _ _ f=>f.elim)).trans k2 (λ i _ x=>x.elim .inl (λ g=>.inr (.inl g)))
 rcases ad with ⟨rfl,rfl⟩|⟨hc,rfl⟩
 ·have hP:=hPost.out w2 a5 (a4.less (λ i hi=>.inl hi)) a6 kW
  replace ⟨a4,a6,k2,a3,a7,a5,kW,kB⟩:=yh8 a4 a6 k2 a3 a7 a5 kW kB;replace ⟨a1,s1,s2,hP⟩:=yh4 a1 s1 s2 hP
  go_wp2
  refine leaves_cons (f:=136) (args:=#[↑(w.heap.size+1),↑w.heap.size]) (by simp) (by simp [go_sem]) ?_
  refine (aBB _ _ _).mono ?_
  rintro e u' w'' ⟨rfl,rfl,rfl⟩
  simp [Leaves,settle,results,Tryz.results61,go_sem]
  exact hP.out
 ·have aj:=a1
  have b2:w2.cell? ⟨w.heap.size+1,0,none⟩=some ↑eb:=k2.cellF (s2.out.cellF b0 (λ f=>f)) (λ x=>x.elim (a3 _ (.inr ⟨by show w.heap.size<=w.heap.size+1;omega,by show w.heap.size+1<_;omega⟩)) (a7 _ (by show w.heap.size<=w.heap.size+1;omega)))
  have a2:w2.cell? ↑w.heap.size=some ↑tab:=k2.cellF (s2.out.cellF a0 (λ f=>f)) (λ x=>x.elim (a3 _ (.inr ⟨aEK _,by show w.heap.size<_;omega⟩)) (a7 _ (aEK _)))
  have t2:Blk w2 tab (tabO p):=k2.blk (kB.blk ht.out (λ f=>f)) (λ x=>x.elim (a3 tab (.inl xt)) (λ g=>(hG.out tab g).2.2.1 rfl))
  have p2:Blk w2 p (ab3 C.t):=k2.blk (kB.blk hp.out (λ f=>f)) (λ x=>x.elim (a3 p (.inl xp)) (λ g=>(hG.out p g).2.2.2 rfl))
  have n1:w.heap.size+1≠eb:=by have:=l3.out;omega
  have n2:w.heap.size≠eb:=by have:=l3.out;omega
  have hD:CallsD prog 136 #[↑(w.heap.size+1),↑w.heap.size] (.panicking [{ v:=errV c,recovered:=false }]) w2 λ e u' w'=>
    e=U (.tuple #[])/\u'=.panicking [{ v:=errV c,recovered:=true }]/\Ak3 w2 C T0 (λ i=>X i∨w.heap.size<=i/\i<w1.heap.size) eb c w':=by
   by_cases h6:c=6
   ·subst h6
    exact anA a4 a5 (.inl xe) b2 n1 a2 n2 t2 a9.out p2 aa.out
   ·exact ao8 a4 a5 (.inl xe) b2 n1 hc h6
  have hfin:∀ w3,Ak3 w2 C T0 (λ i=>X i∨w.heap.size<=i/\i<w1.heap.size) eb c w3->Post (U (.tuple #[])) w3:=λ w3 x=>
   hPost.out w3 x.1 (x.2.1.less (λ i hi=>.inl hi)) (hR.out w2 w3 a6 x.2.2) (kW.trans x.2.2 (λ i _ y=>y.elim .inl (λ e=>.inr (.inr e))))
  clear b2 a2 t2 p2
  replace ⟨hD,hfin⟩:=yh2 hD hfin;clear a4 a6 k2 a3 a7 a5 kW kB a1 s1 s2
  refine leaves_cons (f:=136) (args:=#[↑(w.heap.size+1),↑w.heap.size]) (by simp) (by simp [go_sem]) ?_
  refine hD.out.mono ?_
  rintro e u' w3 ⟨rfl,rfl,af⟩
  have hQ:=hfin.out w3 af
  clear af
  replace hQ:=hid hQ
  simp [Leaves,settle,results,Tryz.results61,go_sem]
  exact hQ.out
theorem ahX (h:Aa6 w C T X) (h0:T.st≠0) (ht:Blk w tab (tabO p)) (hp:Blk w p (ab3 C.t)) (a1:Blk w eb (errO 0)) (xt:X tab) (xp:X p) (xe:X eb) (a3:tab≠eb) (a4:p≠eb) (f:Value) :
  Calls prog 61 #[↑tab,↑eb,f] w (AnO w C T X NoF eb T.st (λ _=>True)):=by
 have ac:∀ (fn:Fn) (first cap:Array Value) (w:World),(Instr.makeFunc fn first cap).run prog w=.ok (.func fn first cap) w:=λ _ _ _ _=>rfl
 have l1:=h.lt _ xt
 have l2:=h.lt _ xp
 have l3:=h.lt _ xe
 have kA:AaA NoF w ((w.alloc (.cells #[↑tab] 27 (0,0))).alloc (.cells #[↑eb] 122 (0,0))):=((AaA.refl _ w).alloc _).alloc _
 have a9:=(Blk.new w (.cells #[↑tab] 27 (0,0))).alloc (.cells #[↑eb] 122 (0,0))
 have a5:=Blk.new (w.alloc (.cells #[↑tab] 27 (0,0))) (.cells #[↑eb] 122 (0,0))
 rw [aEI] at a5
 have hsz:((w.alloc (.cells #[↑tab] 27 (0,0))).alloc (.cells #[↑eb] 122 (0,0))).heap.size=w.heap.size+1+1:=by simp only [aEI]
 have p0:=(kA.blk ht (λ f=>f)).cell 0
 have q0:=(kA.blk hp (λ f=>f)).cell 0
 unfold tabO at p0
 unfold ab3 at q0
 simp at p0 q0
 have hS:=(h.wider kA).state
 have a6:T.thrown T.st=T:=by
  unfold TS.thrown TS.spoilN
  simp only [if_neg h0]
  split<;>rfl
 generalize ab:(w.alloc (.cells #[↑tab] 27 (0,0))).alloc (.cells #[↑eb] 122 (0,0))=wA at *
 have a0:=a9.cell 0
 have b0:=a5.cell 0
 simp at a0 b0
 have hPost:∀ w',Blk w' eb (errO T.st)->Aa6 w' C T X->AaA (λ i=>KF C i∨False∨i=eb) w w'->AnO w C T X NoF eb T.st (λ _=>True) (U (.tuple #[])) w':=λ w' a b e=>⟨rfl,a,b,trivial,e⟩
 generalize AnO w C T X NoF eb T.st (λ _=>True)=Post at hPost ⊢
 replace ⟨ht,hp,a1,kA,hsz,hS,hPost,l3⟩:=yh8 ht hp a1 kA hsz hS hPost l3;replace ⟨a3,a4,a6⟩:=yh3 a3 a4 a6;clear h a9 a5 l1 l2
 go_enter_defers Tryz.func61,Tryz.ntmps61
 go_upto_region 2 with fail
 clear ab
 go_wp2_with (first
  | (go_at_call 85;refine hS.out.mono ?_;rintro e w1 ⟨rfl,s1,s2⟩;replace ⟨s1,s2⟩:=yh2 s1 s2)
  | (go_at_call 103;refine (ajH _ T.st h0).mono ?_;rintro e w3 ⟨rfl,rfl⟩))
 have kB:=kA.out.step s2.out
 have a7:w.heap.size+1+1<=w1.heap.size:=by have:=s2.out.size;have:=hsz.out;omega
 have a8:Blk w1 eb (errO 0):=kB.blk a1.out (λ f=>f)
 have b2:w1.cell? ⟨w.heap.size+1,0,none⟩=some ↑eb:=s2.out.cellF b0 (λ f=>f)
 have a2:w1.cell? ↑w.heap.size=some ↑tab:=s2.out.cellF a0 (λ f=>f)
 have n1:w.heap.size+1≠eb:=by have:=l3.out;omega
 have n2:w.heap.size≠eb:=by have:=l3.out;omega
 have hD:CallsD prog 136 #[↑(w.heap.size+1),↑w.heap.size] (.panicking [{ v:=errV T.st,recovered:=false }]) w1 λ e u' w'=>
   e=U (.tuple #[])/\u'=.panicking [{ v:=errV T.st,recovered:=true }]/\Ak3 w1 C T (λ i=>X i∨w.heap.size<=i/\i<wA.heap.size) eb T.st w':=by
  by_cases h6:T.st=6
  ·rw [h6]
   exact anA s1.out a8 (.inl xe) b2 n1 a2 n2 (kB.blk ht.out (λ f=>f)) a3.out (kB.blk hp.out (λ f=>f)) a4.out
  ·exact ao8 s1.out a8 (.inl xe) b2 n1 h0 h6
 have hfin:∀ w3,Ak3 w1 C T (λ i=>X i∨w.heap.size<=i/\i<wA.heap.size) eb T.st w3->Post (U (.tuple #[])) w3:=λ w3 x=>
  hPost.out w3 x.1 (by have:=x.2.1.less (Y:=X) (λ i hi=>.inl hi);rwa [a6.out] at this) ((kB.mono (F:=λ _=>False) (G:=λ i=>KF C i∨False∨i=eb) (λ _ _ f=>f.elim)).trans x.2.2 (λ i _ y=>y.elim .inl (λ e=>.inr (.inr e))))
 clear b2 a2
 replace ⟨hD,hfin⟩:=yh2 hD hfin;clear a8 kB a7 s1 s2 h0
 refine leaves_cons (f:=136) (args:=#[↑(w.heap.size+1),↑w.heap.size]) (by simp) (by simp [go_sem]) ?_
 refine hD.out.mono ?_
 rintro e u' w3 ⟨rfl,rfl,aa⟩
 have hQ:=hfin.out w3 aa
 clear aa
 replace hQ:=hid hQ
 simp [Leaves,settle,results,Tryz.results61,go_sem]
 exact hQ.out
end
end Go.Vk
