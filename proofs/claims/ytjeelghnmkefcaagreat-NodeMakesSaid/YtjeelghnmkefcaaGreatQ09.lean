/- Part of the proof: Wb2 Wb3 Wb4. -/
import Derived.Test.YtjeelghnmkefcaaGreatQ08
import Derived.RangeFuncNested
import Derived.RangeFuncLeaves
import Derived.RangeFuncBound
import Derived.WalkMore
set_option linter.unusedVariables false
set_option maxHeartbeats 16000000
set_option maxRecDepth 100000
namespace Go.Vk
open Go.RowKit Go.Proofs
open Tryz (prog)
theorem aCL:prog.underlying 238=some (.slice 209):=by kernel_rfl
theorem aBT:(prog.info? 209).map (λ i=>(i.zero,i.size,i.bytes))=some (some (.agg aeD.toArray),5,56):=by kernel_rfl
theorem aoW {P:Program} {t e:TypeId} {i:TypeInfo} {z:List Value} {b:Nat} (ht:P.underlying t=some (.slice e)) (hi:P.info? e=some i) (hz:i.zero=some (.agg z.toArray)) (hs:i.size=z.length) (hb:i.bytes=b)
  (n:Nat) (hn:n*b<=140737488355328) (a3:n<=1048576) (w:World) :
  (Instr.makeSlice t (I n) (I n)).run P w=.ok (.slice ↑w.heap.size n n) (w.alloc (.cells (recs n (λ _=>z)).toArray e (0,0))):=by
 have h:=run_make (P:=P) w t e i _ ht hi hz .i64 .i64 n n (by omega) (by omega) (by
  rw [hb]
  have e:((n*b:Nat):Int)=(b:Int)*(n:Int):=by rw [Nat.mul_comm];exact Int.natCast_mul b n
  omega) (by omega)
 rw [h]
 have hl:=afT (n:=n) (f:=λ _=>z) (m:=z.length) (λ _ _=>rfl)
 have e1:madeCells (Value.agg z.toArray).cells ((n:Int).toNat*i.size)=(recs n (λ _=>z)).toArray:=by
  rw [hs,Int.toNat_natCast]
  apply Array.ext'
  apply List.ext_getElem
  ·rw [hl];simp [madeCells,Nat.mul_comm]
  ·intro j h1 h2
   rw [hl] at h2
   have a1:0<z.length:=Nat.pos_of_ne_zero (λ e=>by rw [e] at h2;omega)
   have hq:j / z.length<n:=Nat.div_lt_of_lt_mul h2
   have hr:j % z.length<z.length:=Nat.mod_lt _ a1
   have hg:=arO (n:=n) (f:=λ _=>z) (m:=z.length) (λ _ _=>rfl) hq hr
   rw [Nat.div_add_mod] at hg
   have a0:(recs n (λ _=>z))[j]? = some (z[j % z.length]'hr):=by rw [hg];exact aEG hr
   rw [List.getElem?_eq_some_iff] at a0
   obtain ⟨_,a2⟩:=a0
   rw [a2]
   simp [madeCells,Value.cells,hr]
 rw [e1]
 simp
theorem aDF (n:Nat) (hn:n<=1048576) (w:World):(Instr.makeSlice 238 (I n) (I n)).run prog w=.ok (.slice ↑w.heap.size n n) (w.alloc (.cells (recs n (λ _=>aeD)).toArray 209 (0,0))):=by
 obtain ⟨i,h1,h2,h3,h4⟩:=info_parts aBT
 exact aoW aCL h1 h2 h3 h4 n (by omega) hn w
theorem asY {s:List UInt8} (h:ahQ s=none) (b:Nat):alX s b=.tuple #[.slice none 0 0,I 30]:=by unfold alX;rw [h]
theorem am9 {s body:List UInt8} (h:ahQ s=some body) (b:Nat):alX s b=.tuple #[.slice (some ⟨b,if body.length=0 then 0 else 7,none⟩) body.length body.length,I 0]:=by unfold alX;rw [h]
theorem alA (s:List UInt8) {a n N i:Nat} (h:a+n<=N):(((s.drop i).take N).drop a).take n=(s.drop (i+a)).take n:=by
 rw [List.drop_take,List.take_take,List.drop_drop,Nat.min_eq_left (by omega)]
theorem aqP {s body:List UInt8} (hs:s.length=512) (a0:ahQ s=some body) (a1:ab1 s=some body) {M:Nat} (hM:body.length=M+12) (b:Nat) :
  agQ s b=[I (abH ((s.drop 7).take 4):Nat),I (abH ((s.drop 11).take 4):Nat),I (abH ((s.drop 15).take 2):Nat),I (abH ((s.drop 17).take 2):Nat),.slice (some ⟨b,if M=0 then 7 else 19,none⟩) M M]:=by
 obtain ⟨h1,h2⟩:=ahP hs a0
 unfold agQ ao2 abS
 rw [a1]
 dsimp only
 rw [hM,Nat.add_sub_cancel]
 have e0:body.take 4=(s.drop 7).take 4:=by
  have:=alA s (a:=0) (n:=4) (N:=body.length) (i:=7) (by omega)
  rwa [← h2] at this
 have e1:(body.drop 4).take 4=(s.drop 11).take 4:=by
  have:=alA s (a:=4) (n:=4) (N:=body.length) (i:=7) (by omega)
  rwa [← h2] at this
 have e2:(body.drop 8).take 2=(s.drop 15).take 2:=by
  have:=alA s (a:=8) (n:=2) (N:=body.length) (i:=7) (by omega)
  rwa [← h2] at this
 have e3:(body.drop 10).take 2=(s.drop 17).take 2:=by
  have:=alA s (a:=10) (n:=2) (N:=body.length) (i:=7) (by omega)
  rwa [← h2] at this
 rw [e0,e1,e2,e3]
 congr 5
 by_cases hm:M=0
 ·subst hm;rfl
 ·rw [if_neg hm,if_neg (by omega)]
theorem avR {Q:Exit->Act->World->Prop} {i:Nat} {e:Exit} {a:Act} {w:World} (S:World->Prop) (hS:S w) (h:∀ w',S w'->Exit.inBlock i Q e a w'):Exit.inBlock i Q e a w:=h w hS
structure AcO (w:World) (g:Nat) (f:Nat->List UInt8) (bs:Nat->Nat) (n k lo:Nat):Prop where
 row:Blk w g (aAV f bs n k)
 data:∀ j,j<k->ab1 (f j)≠none->Blk w (bs j) (aa2 276 (f j))/\lo<=bs j/\bs j≠g
theorem AcO.keeps {w w':World} {g:Nat} {f:Nat->List UInt8} {bs:Nat->Nat} {n k lo:Nat} {G:Nat->Prop} (h:AcO w g f bs n k lo) (kk:AaA G w w') (hg:¬ G g) (hG:∀ i,lo<=i->¬ G i):AcO w' g f bs n k lo:=
 ⟨kk.blk h.row hg,λ j hj hp=>⟨kk.blk (h.data j hj hp).1 (hG _ (h.data j hj hp).2.1),(h.data j hj hp).2⟩⟩
theorem AcO.skip {w:World} {g:Nat} {f:Nat->List UInt8} {bs:Nat->Nat} {n k lo:Nat} (h:AcO w g f bs n k lo) (hp:ab1 (f k)=none):AcO w g f bs n (k+1) lo:=by
 refine ⟨?_,λ j hj hq=>?_⟩
 ·have e:recs n (ak6 f bs (k+1))=recs n (ak6 f bs k):=ah8 λ j hj=>by
   unfold ak6
   by_cases h1:j=k
   ·subst h1;rw [if_pos (by omega),if_neg (by omega),aqQ hp]
   ·by_cases h2:j<k
    ·rw [if_pos (by omega),if_pos h2]
    ·rw [if_neg (by omega),if_neg h2]
  unfold aAV
  rw [e]
  exact h.row
 ·by_cases h1:j=k
  ·subst h1;exact (hq hp).elim
  ·exact h.data j (by omega) hq
theorem AcO.put {w:World} {g:Nat} {f:Nat->List UInt8} {bs:Nat->Nat} {n k lo b:Nat} (h:AcO w g f bs n k lo) (hk:k<n) (hb:Blk w b (aa2 276 (f k))) (a1:lo<=b) (a0:b≠g) :
  AcO (w.setCells g (5*k) (agQ (f k) b)) g f (λ j=>if j=k then b else bs j) n (k+1) lo/\AaA (· = g) w (w.setCells g (5*k) (agQ (f k) b)):=by
 have hs:=ac1 g 209 (agQ (f k) b) (5*k) w (recs n (ak6 f bs k)) h.row (by rw [afT (m:=5) (λ j _=>af6 f bs k j),ajI];omega)
 rw [avP (λ j _=>af6 f bs k j) hk (ajI _ _),asQ f bs n k b hk] at hs
 refine ⟨⟨hs.1,λ j hj hq=>?_⟩,hs.2.1⟩
 by_cases h1:j=k
 ·subst h1
  rw [if_pos rfl]
  exact ⟨hs.2.1.blk hb a0,a1,a0⟩
 ·rw [if_neg h1]
  have:=h.data j (by omega) hq
  exact ⟨hs.2.1.blk this.1 this.2.2,this.2⟩
theorem AcO.drew {w:World} {g:Nat} {f:Nat->List UInt8} {bs:Nat->Nat} {n k lo:Nat} (h:AcO w g f bs n k lo):AcO w.drew g f bs n k lo:=⟨h.row,h.data⟩
def AlG (w:World) (d:Nat) (D:DM) (F:List Nat) (f n:Nat) (e:Ending) (w':World):Prop:=
 ∃ g bs,e=U (.tuple #[.slice (some ⟨g,0,none⟩) n n,I 0])/\w.heap.size<=g/\AcO w' g (λ j=>D.now (f+2+j)) bs n n w.heap.size/\AaI w' d (D.readedN n) F/\AaA (· ∈ F) w w'
section
variable {w:World} {d l:Nat} {D:DM} {F:List Nat} {L:LM}
theorem aC0 (hl:Blk w l (logO d L)) (h:AaI w d D F) (aw:l∉F) (hb:D.burnt=false) (aP:1<=L.n) (aZ:L.n<=256) (hf:L.first+2+L.n<=D.n) (hn:D.n<=2048) :
  Calls prog 219 #[↑l] w (AlG w d D F L.first L.n):=by
 have c2:=hl.cell 2
 simp at c2
 have hlt:=h.lt
 have aQ:=hl.lt
 have aR:=aDF L.n (by omega)
 have hP:∀ g bs W,w.heap.size<=g->AcO W g (λ j=>D.now (L.first+2+j)) bs L.n L.n w.heap.size->AaI W d (D.readedN L.n) F->AaA (· ∈ F) w W ->
   AlG w d D F L.first L.n (U (.tuple #[.slice (some ⟨g,0,none⟩) L.n L.n,I 0])) W:=λ g bs W x1 x2 x3 x4=>⟨g,bs,rfl,x1,x2,x3,x4⟩
 generalize AlG w d D F L.first L.n=Post at hP ⊢
 have hz:aAV (λ j=>D.now (L.first+2+j)) (λ _=>0) L.n 0=.cells (recs L.n (λ _=>aeD)).toArray 209 (0,0):=rfl
 have h1:AcO (w.alloc (.cells (recs L.n (λ _=>aeD)).toArray 209 (0,0))) w.heap.size (λ j=>D.now (L.first+2+j)) (λ _=>0) L.n 0 w.heap.size:=
  ⟨Blk.new w _,λ j hj=>by omega⟩
 have hsl:∀ j,j<L.n->(D.now (L.first+2+j)).length=512:=λ j hj=>h.now_length _ (by omega)
 have h2:AaI (w.alloc (.cells (recs L.n (λ _=>aeD)).toArray 209 (0,0))) d (D.readedN 0) F:=h.keeps ((AaA.refl NoF w).alloc _) (λ _ _ f=>f)
 have h3:=hl.alloc (.cells (recs L.n (λ _=>aeD)).toArray 209 (0,0))
 have h4:=(AaA.refl (· ∈ F) w).alloc (.cells (recs L.n (λ _=>aeD)).toArray 209 (0,0))
 have h5:=And.intro h1 (And.intro h2 (And.intro h3 h4))
 clear h1 h2 h3 h4 hz
 have aG:l≠w.heap.size:=by omega
 have ax:w.heap.size∉F:=λ hm=>by have:=hlt _ hm;omega
 replace ⟨hl,hlt,hP,h5,hb,aG,ax,hsl⟩:=yh8 hl hlt hP h5 hb aG ax hsl;clear h aQ
 go_enter Tryz.func219,Tryz.ntmps219
 go_upto_region 2 with fail
 refine adW (λ W=>AcO W w.heap.size (λ j=>D.now (L.first+2+j)) (λ _=>0) L.n 0 w.heap.size/\AaI W d (D.readedN 0) F/\Blk W l (logO d L)/\AaA (· ∈ F) w W) h5.out ?_
 clear h5 aR c2
 rintro w2 ⟨hR,hD,aD,hk⟩
 have aK:w.heap.size<=w.heap.size:=aEK _
 generalize aq:w.heap.size=g at hR aG ax aK ⊢
 replace ⟨hR,hD,aD,hk,aq⟩:=yh5 hR hD aD hk aq;clear aK
 go_wp2
 go_loopw [5,17] (λ _ i wr=>∃ (k:Nat) (bs:Nat->Nat),k<=L.n/\i=I k/\AcO wr g (λ j=>D.now (L.first+2+j)) bs L.n k g/\AaI wr d (D.readedN k) F/\Blk wr l (logO d L)/\AaA (· ∈ F) w wr) (λ _ i _=>L.n - (intOf i).toNat)
 case atStart=>exact ⟨0,_,by omega,rfl,hR.out,hD.out,aD.out,hk.out⟩
 case round=>
  obtain ⟨k,bs,hk1,rfl,af,hD7,ag,hk7⟩:=hrel
  clear hR hD aD hk
  by_cases ah:k<L.n
  ·have c0:=ag.cell 0
   simp at c0
   have c0d:wr.drew.cell? ↑l=some ↑d:=c0
   have ay:=at_w ag.drew k aP (by omega) (by omega)
   rw [Nat.mod_eq_of_lt ah] at ay
   have az:=λ m=>akA (hD7.drewN m) ((ag0 D k).trans hb.out) ((L.first:Int)+2+(k:Int)) (by omega) (by rw [afQ];omega)
   rw [show ((L.first:Int)+2+(k:Int)).toNat=L.first+2+k by omega,alP] at az
   have ab:∀ m,Blk (wr.drewN m) l (logO d L):=λ m=>ag
   replace ⟨af,hD7,ag,hk7,ay,az,ab⟩:=yh7 af hD7 ag hk7 ay az ab
   go_upto_region 5 with fail
   go_region_held3 (λ W=>W.cell? ↑l=some ↑d) (first|with_reducible exact c0d|with_reducible exact q0|with_reducible exact q1|with_reducible exact r0) (first
    | (go_at_call 225;refine ay.out.mono ?_;rintro e w8 ⟨rfl,m,rfl⟩;have q0:(wr.drew.drewN m).cell? ↑l=some ↑d:=c0d;have q1:(wr.drewN (1+m)).cell? ↑l=some ↑d:=c0d)
    | (go_at_call 149;refine (az.out _).mono ?_;rintro e w9 ⟨b9,rfl,aH,aI,aE,k9⟩;have aL:=k9.blk (ab.out _) aw;have r0:=aL.cell 0;simp at r0;replace ⟨aE,k9,aI,aH⟩:=yh4 aE k9 aI aH;clear aL))
   all_goals
    have ac:AaA (· ∈ F) wr w9:=((AaA.refl (· ∈ F) wr).drewN (1+m)).step k9.out
    have aM:∀ i,g<=i->i∉F:=λ i hi hm=>by have:=hlt.out i hm;have:=aq.out;omega
    have ar:=af.out.keeps ac ax.out aM
    have au:=hk7.out.step ac
    have aF:=af.out.row.lt
    have aS:g<b9:=aEJ aF aH.out
    have a9:=hsl.out k ah
    have a4:=azQ w9 b9 512 5 (D.now (L.first+2+k)) aI.out a9
    have a6:AaI w9 d (D.readedN (k+1)) F:=aE.out
    have aT:=ac.size
    clear hD7 hk7 af ac aE k9 ag az ay ab q0 q1 r0 c0 c0d
    replace ⟨ar,au,a4,a6,a9,aF⟩:=yh6 ar au a4 a6 a9 aF;clear aM
    cases a5:ahQ (D.now (L.first+2+k)) with
    | none=>
     have a7:ab1 (D.now (L.first+2+k))=none:=by unfold ab1;rw [a5]
     simp only [asY a5] at a4
     replace ⟨a5,a7,a4⟩:=yh3 a5 a7 a4
     go_wp2_with (go_at_call 245;refine a4.out.mono ?_;rintro e w10 ⟨b10,a3,a0,k10,rfl⟩;replace ⟨a3,a0,k10⟩:=yh3 a3 a0 k10)
     have a1:=(ar.out.keeps k10.out (λ f=>f) (λ _ _ f=>f)).skip a7.out
     have a2:=au.out.trans k10.out (λ _ _ f=>f.elim)
     exact ⟨⟨k+1,bs,by omega,by go_num,a1,a6.out.keeps k10.out (λ _ _ f=>f),a2.blk hl.out aw,a2⟩,by simp [intOf];omega⟩
    | some body=>
     by_cases ai:body.length<12
     ·have a7:ab1 (D.now (L.first+2+k))=none:=by unfold ab1;rw [a5];dsimp only;rw [if_pos ai]
      simp only [am9 a5] at a4
      have h12':¬ (12:Int)<=(body.length:Int):=by omega
      generalize (if body.length=0 then 0 else 7)=off0 at a4
      replace ⟨a5,a7,a4,ai⟩:=yh4 a5 a7 a4 ai
      go_wp2_with (go_at_call 245;refine a4.out.mono ?_;rintro e w10 ⟨b10,a3,a0,k10,rfl⟩;replace ⟨a3,a0,k10⟩:=yh3 a3 a0 k10)
      have a1:=(ar.out.keeps k10.out (λ f=>f) (λ _ _ f=>f)).skip a7.out
      have a2:=au.out.trans k10.out (λ _ _ f=>f.elim)
      exact ⟨⟨k+1,bs,by omega,by go_num,a1,a6.out.keeps k10.out (λ _ _ f=>f),a2.blk hl.out aw,a2⟩,by simp [intOf];omega⟩
     ·have a7:ab1 (D.now (L.first+2+k))=some body:=by unfold ab1;rw [a5];dsimp only;rw [if_neg ai]
      simp only [am9 a5] at a4
      rw [if_neg (show ¬ body.length=0 by omega)] at a4
      have h12':(12:Int)<=(body.length:Int):=by omega
      replace ⟨a5,a7,a4,ai⟩:=yh4 a5 a7 a4 ai
      go_upto_region 10 with (go_at_call 245;refine a4.out.mono ?_;rintro e w10 ⟨b10,a3,a0,k10,rfl⟩;replace ⟨a3,a0,k10⟩:=yh3 a3 a0 k10)
      obtain ⟨M,hM⟩:∃ M,body.length=M+12:=⟨body.length - 12,by have:=ai.out;omega⟩
      have a8:M+12<=504:=by rw [← hM];exact (ahP a9.out a5.out).1
      have aN:=aqP a9.out a5.out a7.out hM b10
      have a1:=ar.out.keeps k10.out (λ f=>f) (λ _ _ f=>f)
      have b0:g<b10:=by have:=a3.out;have:=aF.out;omega
      have aa:=a1.put ah a0.out (by omega) (show b10≠g by omega)
      have a2:=au.out.trans k10.out (λ _ _ f=>f.elim)
      have ad:=a6.out.keeps k10.out (λ _ _ f=>f)
      rw [aN] at aa
      generalize aJ:D.now (L.first+2+k)=s at *
      have hB:Blk w10.drew b10 (aa2 276 s):=a0.out.drew
      have aj:Calls prog 246 #[.slice (some ⟨b10,7,none⟩) body.length body.length,I 4] w10.drew _:=af0 w10.drew b10 7 body.length body.length _ s hB 4 (by omega) (by omega) (by have:=a9.out;omega) (by omega)
      have ak:Calls prog 246 #[.slice (some ⟨b10,11,none⟩) (body.length - 4) (body.length - 4),I 4] w10.drew _:=af0 w10.drew b10 11 (body.length - 4) (body.length - 4) _ s hB 4 (by omega) (by omega) (by have:=a9.out;omega) (by omega)
      have al:Calls prog 246 #[.slice (some ⟨b10,15,none⟩) (body.length - 8) (body.length - 8),I 2] w10.drew _:=af0 w10.drew b10 15 (body.length - 8) (body.length - 8) _ s hB 2 (by omega) (by omega) (by have:=a9.out;omega) (by omega)
      have am:Calls prog 246 #[.slice (some ⟨b10,17,none⟩) (body.length - 10) (body.length - 10),I 2] w10.drew _:=af0 w10.drew b10 17 (body.length - 10) (body.length - 10) _ s hB 2 (by omega) (by omega) (by have:=a9.out;omega) (by omega)
      generalize abH ((s.drop 7).take 4)=v1 at aa aj
      generalize abH ((s.drop 11).take 4)=v2 at aa ak
      generalize abH ((s.drop 15).take 2)=v3 at aa al
      generalize abH ((s.drop 17).take 2)=v4 at aa am
      clear aN hB au a6 ar a4 a9
      generalize body.length=N at *
      have hN4':(4:Int)<=(N:Int):=by omega
      have hN8':(8:Int)<=(N:Int):=by omega
      have hN10':(10:Int)<=(N:Int):=by omega
      have aU:¬ N<=4:=by omega
      have aV:¬ N<=8:=by omega
      have aO:¬ N<=10:=by omega
      have aW:M=N - 12:=by omega
      subst aW
      have av:∀ i,i<5->∃ v,w10.cell? ⟨g,k*5+i,none⟩=some v:=λ i hi=>by
       have hc:=a1.row.cell (5*k+i)
       have aX:=afT (n:=L.n) (f:=ak6 (λ j=>D.now (L.first+2+j)) bs k) (m:=5) (λ j _=>af6 _ bs k j)
       rw [List.getElem?_toArray,aEG (by rw [aX];omega)] at hc
       rw [Nat.mul_comm k 5]
       exact ⟨_,hc⟩
      obtain ⟨y0,aY⟩:=av 0 (by decide)
      obtain ⟨y1,b1⟩:=av 1 (by decide)
      obtain ⟨y2,b2⟩:=av 2 (by decide)
      obtain ⟨y3,b3⟩:=av 3 (by decide)
      obtain ⟨y4,b4⟩:=av 4 (by decide)
      rw [Nat.add_zero] at aY
      have b5:∀ i,w10.frozen? ⟨g,i,none⟩=false:=a1.row.frz
      clear av
      have b6:(k:Int)<(L.n:Int):=by omega
      rw [Nat.mul_comm 5 k] at aa
      have aA:=aa.1.drew
      have aB:=a2.fresh aa.2.drew (λ i hi=>by rw [hi,aq.out];exact aEK _)
      have aC:=ad.keeps aa.2.drew (λ i hi hg=>ax.out (hg ▸ hi))
      have an:=And.intro aA (And.intro aC aB)
      clear aA aB aC aa
      by_cases b7:N<=12
      ·obtain rfl:N=12:=by omega
       replace ⟨an,hM,a2,ad,a1,aj,ak,al⟩:=yh8 an hM a2 ad a1 aj ak al;replace ⟨am,a8,aJ⟩:=yh3 am a8 aJ
       go_region_held3 (λ _=>True) (trivial) (first
        | (go_at_call_of 246 (Addr.mk b10 7 none);refine aj.out.mono ?_;rintro e w' ⟨rfl,rfl⟩)
        | (go_at_call_of 246 (Addr.mk b10 11 none);refine ak.out.mono ?_;rintro e w' ⟨rfl,rfl⟩)
        | (go_at_call_of 246 (Addr.mk b10 15 none);refine al.out.mono ?_;rintro e w' ⟨rfl,rfl⟩)
        | (go_at_call_of 246 (Addr.mk b10 17 none);refine am.out.mono ?_;rintro e w' ⟨rfl,rfl⟩))
       all_goals
        refine avR (λ W=>AcO W g (λ j=>D.now (L.first+2+j)) (λ j=>if j=k then b10 else bs j) L.n (k+1) g/\AaI W d (D.readedN (k+1)) F/\AaA (· ∈ F) w W) an.out ?_
        rintro W ⟨ao,ap,ae⟩
        replace ⟨ao,ap,ae⟩:=yh3 ao ap ae
        go_wp2
        exact ⟨⟨k+1,_,by omega,by go_num,ao.out,ap.out,ae.out.blk hl.out aw,ae.out⟩,by simp [intOf];omega⟩
      ·have hq1:¬ N=4:=by omega
       have hq2:¬ N=8:=by omega
       have b8:¬ N=10:=by omega
       have ba:¬ N=12:=by omega
       rw [if_neg (show ¬ N - 12=0 by omega)] at an
       replace ⟨an,aj,ak,al,am⟩:=yh5 an aj ak al am;clear hM a2 ad a1 a8 aJ
       go_region_held3 (λ _=>True) (trivial) (first
        | (go_at_call_of 246 (Addr.mk b10 7 none);refine aj.out.mono ?_;rintro e w' ⟨rfl,rfl⟩)
        | (go_at_call_of 246 (Addr.mk b10 11 none);refine ak.out.mono ?_;rintro e w' ⟨rfl,rfl⟩)
        | (go_at_call_of 246 (Addr.mk b10 15 none);refine al.out.mono ?_;rintro e w' ⟨rfl,rfl⟩)
        | (go_at_call_of 246 (Addr.mk b10 17 none);refine am.out.mono ?_;rintro e w' ⟨rfl,rfl⟩))
       all_goals
        refine avR (λ W=>AcO W g (λ j=>D.now (L.first+2+j)) (λ j=>if j=k then b10 else bs j) L.n (k+1) g/\AaI W d (D.readedN (k+1)) F/\AaA (· ∈ F) w W) an.out ?_
        rintro W ⟨ao,ap,ae⟩
        replace ⟨ao,ap,ae⟩:=yh3 ao ap ae
        go_wp2
        exact ⟨⟨k+1,_,by omega,by go_num,ao.out,ap.out,ae.out.blk hl.out aw,ae.out⟩,by simp [intOf];omega⟩
  ·obtain rfl:k=L.n:=by omega
   have hR7':AcO wr g (λ j=>D.now (L.first+2+j)) bs L.n L.n w.heap.size:=by rw [aq.out];exact af
   have hX:=hP.out g bs wr (by rw [aq.out];exact aEK _) hR7' hD7 hk7
   replace hX:=hid hX;clear af hR7' hD7 ag hk7
   go_wp2
   exact hX.out
end
def topK (f:Nat->List UInt8) (e:Nat):Nat->Nat
 | 0=>e
 | k+1=>if (abS (f k)).epoch<=1073741824 then max (topK f e k) (abS (f k)).epoch else topK f e k
theorem at5 (f:Nat->List UInt8) (e:Nat) (he:e<=1073741824) (k:Nat):topK f e k<=1073741824:=by
 induction k with
 | zero=>exact he
 | succ k ih=>unfold topK;split<;>omega
theorem aBP (f:Nat->List UInt8) (e:Nat) (k:Nat):e<=topK f e k:=by
 induction k with
 | zero=>exact aEK _
 | succ k ih=>unfold topK;split<;>omega
theorem aoN (f:Nat->List UInt8) (e:Nat) (k:Nat) (h:∀ j,j<k->(abS (f j)).epoch<=e):topK f e k=e:=by
 induction k with
 | zero=>rfl
 | succ k ih=>
  have h1:=h k (by omega)
  have h2:=ih (λ j hj=>h j (by omega))
  unfold topK
  rw [h2]
  split<;>omega
theorem AcO.get {w:World} {g:Nat} {f:Nat->List UInt8} {bs:Nat->Nat} {n lo:Nat} (h:AcO w g f bs n n lo) {k:Nat} (hk:k<n) {j:Nat} (hj:j<5):w.cell? ⟨g,k*5+j,none⟩=(agQ (f k) (bs k))[j]?:=by
 have hc:=h.row.cell (5*k+j)
 rw [List.getElem?_toArray,arO (λ j _=>af6 f bs n j) hk hj] at hc
 rw [Nat.mul_comm k 5,hc]
 unfold ak6
 rw [if_pos hk]
theorem akX (s:List UInt8) (b:Nat):∃ a,ao2 s b=.slice a (abS s).data.length (abS s).data.length:=by
 unfold ao2 abS
 cases ab1 s with
 | none=>exact ⟨_,rfl⟩
 | some x=>exact ⟨some ⟨b,if x.length=12 then 7 else 19,none⟩,by simp⟩
theorem anZ (s:List UInt8) (n:Nat):abH (s.take n)<2 ^ (8*n):=aEJ (ag8 _) (aE5 (by decide) (by rw [aEM];omega))
theorem ayW (s:List UInt8):(abS s).epoch<4294967296:=by
 unfold abS
 cases ab1 s with
 | none=>decide
 | some x=>exact anZ x 4
section
variable {w:World}
theorem aD4 (g:Nat) (f:Nat->List UInt8) (bs:Nat->Nat) (n lo e:Nat) (h:AcO w g f bs n n lo) (hlt:∀ j,j<n->ab1 (f j)≠none->bs j<w.heap.size) (hn:n<=256) (he:e<=1073741824) :
  Calls prog 220 #[I e,.slice ↑g n n] w λ r w'=>r=U (I (topK f e n:Nat))/\AaA NoF w w':=by
 have hk:=AaA.refl NoF w
 have a5:=at5 f e he
 replace ⟨h,hk,a5⟩:=yh3 h hk a5;clear hlt
 go_enter Tryz.func220,Tryz.ntmps220
 go_wp2
 go_loopw [0,9] (λ m i wr=>∃ k:Nat,k<=n/\i=I k/\m=I (topK f e k:Nat)/\AaA NoF w wr) (λ _ i _=>n - (intOf i).toNat)
 case atStart=>exact ⟨0,by omega,rfl,rfl,hk.out⟩
 case round=>
  obtain ⟨k,hk1,rfl,rfl,hk7⟩:=hrel
  clear hk
  by_cases a1:k<n
  ·have a2:=h.out.keeps hk7 (λ f=>f) (λ _ _ f=>f)
   have y0:=a2.get a1 (j:=0) (by decide)
   have y1:=a2.get a1 (j:=1) (by decide)
   have y2:=a2.get a1 (j:=2) (by decide)
   have y3:=a2.get a1 (j:=3) (by decide)
   have y4:=a2.get a1 (j:=4) (by decide)
   obtain ⟨a,ha⟩:=akX (f k) (bs k)
   unfold agQ at y0 y1 y2 y3 y4
   rw [ha] at y4
   simp only [List.getElem?_cons_zero,List.getElem?_cons_succ,Nat.add_zero] at y0 y1 y2 y3 y4
   have hT:topK f e (k+1)=if (abS (f k)).epoch<=1073741824 then max (topK f e k) (abS (f k)).epoch else topK f e k:=rfl
   have hE:=ayW (f k)
   have a4:=a5.out k
   generalize (abS (f k)).epoch=p0 at y0 hT hE
   generalize (abS (f k)).position=p1 at y1
   generalize (abS (f k)).index=p2 at y2
   generalize (abS (f k)).count=p3 at y3
   generalize (abS (f k)).data.length=p4 at y4
   generalize a6:topK f e k=t at hT a4 ⊢
   generalize a0:topK f e (k+1)=t1 at hT
   have a7:(k:Int)<(n:Int):=by omega
   have a3:=hk7.alloc (.cells #[I p0,I p1,I p2,I p3,.slice a p4 p4] 209 (0,0))
   clear ha
   by_cases hp:p0<=1073741824
   ·rw [if_pos hp] at hT
    have hp':(p0:Int)<=1073741824:=by omega
    replace ⟨a2,hk7,hT,hE,a4,a6,a0,a3⟩:=yh8 a2 hk7 hT hE a4 a6 a0 a3;replace hp:=hid hp
    go_wp2
    exact ⟨⟨k+1,by omega,by go_num,by rw [a0.out,hT.out];congr 1;split<;>omega,a3.out⟩,by simp [intOf];omega⟩
   ·rw [if_neg hp] at hT
    have hp':¬ (p0:Int)<=1073741824:=by omega
    replace ⟨hk7,hT,a0,a3⟩:=yh4 hk7 hT a0 a3;clear a2 hE a4 a6 hp
    go_wp2
    exact ⟨⟨k+1,by omega,by go_num,by rw [a0.out,hT.out],a3.out⟩,by simp [intOf];omega⟩
  ·obtain rfl:k=n:=by omega
   replace hk7:=hid hk7
   go_wp2
   go_ret
   exact ⟨rfl,hk7.out⟩
end
section
variable {w:World} {d l:Nat} {D:DM} {F:List Nat} {L:LM}
theorem aD7 (w:World) (l g n:Nat):Calls prog 247 #[↑l,.slice ↑g n n] w λ e w'=>
  e=U (.func (.func 260) #[] #[↑w.heap.size,↑(w.heap.size+1)]) /\
   w'=(w.alloc (.cells #[↑l] 133 (0,0))).alloc (.cells #[.slice ↑g n n] 238 (0,0)):=by
 have a0:∀ (fn:Fn) (first cap:Array Value) (w:World),(Instr.makeFunc fn first cap).run prog w=.ok (.func fn first cap) w:=λ _ _ _ _=>rfl
 go_enter Tryz.func247,Tryz.ntmps247
 go_wp2
 go_ret
 exact ⟨rfl,rfl⟩
def AlF (L:LM) (f:Nat->List UInt8):Prop:=(abS (f (L.tail % L.n))).epoch≠L.epoch∨(abS (f (L.tail % L.n))).position≠L.tail∨(abS (f (L.tail % L.n))).data.length=0
theorem auP (y:Value) (b1 b2 g lo:Nat) (f:Nat->List UInt8) (bs:Nat->Nat) (h1:Blk w b1 (.cells #[↑l] 133 (0,0))) (h2:Blk w b2 (.cells #[.slice ↑g L.n L.n] 238 (0,0)))
  (hl:Blk w l (logO d L)) (hR:AcO w g f bs L.n L.n lo) (a6:1<=L.n) (a7:L.n<=256) (ht:L.tail<=1073741824) (hs:AlF L f) :
  Calls prog 260 #[y,↑b1,↑b2] w λ e w'=>e=U (.tuple #[])/\AaA NoF w w':=by
 have q1:=h1.cell 0
 have q2:=h2.cell 0
 have c2:=hl.cell 2
 have c4:=hl.cell 4
 have c6:=hl.cell 6
 simp at q1 q2 c2 c4 c6
 have hk:L.tail % L.n<L.n:=Nat.mod_lt _ (by omega)
 have y0:=hR.get hk (j:=0) (by decide)
 have y1:=hR.get hk (j:=1) (by decide)
 have y2:=hR.get hk (j:=2) (by decide)
 have y3:=hR.get hk (j:=3) (by decide)
 have y4:=hR.get hk (j:=4) (by decide)
 obtain ⟨a,ha⟩:=akX (f (L.tail % L.n)) (bs (L.tail % L.n))
 unfold AlF at hs
 unfold agQ at y0 y1 y2 y3 y4
 rw [ha] at y4
 simp only [List.getElem?_cons_zero,List.getElem?_cons_succ,Nat.add_zero] at y0 y1 y2 y3 y4
 clear ha
 generalize (abS (f (L.tail % L.n))).epoch=p0 at y0 hs
 generalize (abS (f (L.tail % L.n))).position=p1 at y1 hs
 generalize (abS (f (L.tail % L.n))).index=p2 at y2
 generalize (abS (f (L.tail % L.n))).count=p3 at y3
 generalize (abS (f (L.tail % L.n))).data.length=p4 at y4 hs
 have a8:((L.n:Int) == 0)=false:=by simp;omega
 have a3:¬ (L.n:Int)=0:=by omega
 have a4:¬ L.n=0:=by omega
 have a1:(L.tail:Int) % (L.n:Int)=((L.tail % L.n:Nat):Int):=by simp
 have a0:(L.tail:Int).tmod (L.n:Int)=((L.tail % L.n:Nat):Int):=by rw [Int.tmod_eq_emod_of_nonneg (by omega)];exact a1
 generalize L.tail % L.n=m at y0 y1 y2 y3 y4 hk a1 a0
 have a5:(0:Int)<=(m:Int):=by omega
 have a9:(m:Int)<(L.n:Int):=by omega
 have a2:=AaA.refl NoF w
 replace ⟨a2,hs⟩:=yh2 a2 hs;clear h1 h2 hl hR
 go_enter Tryz.func260,Tryz.ntmps260
 go_wp2
 go_loopw [4] (λ p wr=>p=I L.tail/\wr=w) (λ _ _=>0)
 case atStart=>exact ⟨rfl,rfl⟩
 case round=>
  obtain ⟨rfl,rfl⟩:=hrel
  go_upto_region 2 with fail
  go_region_held3 (λ W=>W.cell? ↑b1=some ↑l/\W.cell? ↑b2=some (.slice ↑g L.n L.n)/\W.cell? ⟨l,2,none⟩=some (I L.n)/\W.cell? ⟨g,m*5,none⟩=some (I p0)/\W.cell? ⟨g,m*5+1,none⟩=some (I p1)/\W.cell? ⟨g,m*5+2,none⟩=some (I p2)/\W.cell? ⟨g,m*5+3,none⟩=some (I p3)/\W.cell? ⟨g,m*5+4,none⟩=some (.slice a p4 p4)) (go_keep) (fail)
  all_goals
   refine ahC (λ W=>Blk W wr.heap.size (.cells #[I p0,I p1,I p2,I p3,.slice a p4 p4] 209 (0,0))/\AaA NoF wr W) ⟨(Blk.new wr _).drew,(a2.out.alloc _).drew⟩ ?_
   clear a1 a0
   rintro W ⟨hv,hkW⟩
   have v0:=hv.cell 0
   have v1:=hv.cell 1
   have v2:=hv.cell 2
   have v3:=hv.cell 3
   have v4:=hv.cell 4
   simp at v0 v1 v2 v3 v4
   have r1:=hkW.cell q1
   have r4:=hkW.cell c4
   clear q1 q2 c2 c4 c6 y0 y1 y2 y3 y4
   generalize wr.heap.size=v at v0 v1 v2 v3 v4 hv ⊢
   by_cases hA:p0=L.epoch
   ·subst hA
    by_cases hB:p1=L.tail
    ·subst hB
     have hC:p4=0:=by
      rcases hs.out with e|e|e
      ·exact (e rfl).elim
      ·exact (e rfl).elim
      ·exact e
     subst hC
     replace ⟨hv,hkW⟩:=yh2 hv hkW
     go_upto_region 3 with fail
     go_quiet (fail)
     go_wp2
     exact bodyPost_ret (v:=.tuple #[]) (by simp [results,Tryz.results260,go_sem]) rfl ⟨rfl,hkW.out.drewN _⟩
    ·have hB':((p1:Int) != (L.tail:Int))=true:=by simp;omega
     replace ⟨hv,hkW⟩:=yh2 hv hkW;clear hB
     go_upto_region 3 with fail
     go_quiet (fail)
     go_wp2
     exact bodyPost_ret (v:=.tuple #[]) (by simp [results,Tryz.results260,go_sem]) rfl ⟨rfl,hkW.out.drewN _⟩
   ·have hA':((p0:Int) != (L.epoch:Int))=true:=by simp;omega
    replace hkW:=hid hkW;clear hv hA
    go_upto_region 3 with fail
    go_quiet (fail)
    go_wp2
    exact bodyPost_ret (v:=.tuple #[]) (by simp [results,Tryz.results260,go_sem]) rfl ⟨rfl,hkW.out.drewN _⟩
end
theorem an2 {w w':World} (k:AaA NoF w w'):w.grownBy w' none:=
 ⟨k.os,k.tape,k.output,k.size,λ i hi _=>k.block i hi (λ f=>f)⟩
section
variable {w:World} {d l:Nat} {L:LM}
theorem asO (hl:Blk w l (logO d L)) (g lo:Nat) (f:Nat->List UInt8) (bs:Nat->Nat) (hR:AcO w g f bs L.n L.n lo) (aA:l≠g) (ag:∀ j,j<L.n->ab1 (f j)≠none->bs j≠l) (ar:1<=L.n) (au:L.n<=256) (ht:L.tail<=1073741824) (hs:AlF L f) :
  Calls prog 221 #[↑l,.slice ↑g L.n L.n] w λ e w'=>e=U (.slice none 0 0)/\Blk w' l (logO d { L with head:=L.tail })/\AaA (· = l) w w':=by
 have ah:=hl.lt
 have c6:=hl.cell 6
 have c7:=hl.cell 7
 have cf:=hl.frz
 simp at c6 c7
 replace ⟨hl,hR,hs,ag,ah⟩:=yh5 hl hR hs ag ah
 refine (callsIn_wide (n:=3)).1 (callsIn_of_wp_marks Tryz.func221 rfl trivial ?_ rfl)
 simp only [Tryz.ntmps221,List.size_toArray,List.length_cons,List.length_nil,Nat.reduceAdd,Nat.reduceSub,Array.replicate_succ,Array.replicate_zero,List.push_toArray,List.append_toArray,List.nil_append,List.cons_append]
 refine wpIn_wide.2 ?_
 go_upto_region 1 with fail
 apply wp_scope_straight
 go_upto_region 3 with fail
 have hk1:=(((AaA.refl NoF w).alloc (.cells #[↑l] 133 (0,0))).alloc (.cells #[.slice none 0 0] 105 (0,0))).alloc (.cells #[.slice none 0 0] 40 (0,0))
 have a3:=((Blk.new w (.cells #[↑l] 133 (0,0))).alloc (.cells #[.slice none 0 0] 105 (0,0))).alloc (.cells #[.slice none 0 0] 40 (0,0))
 have a4:=(Blk.new (w.alloc (.cells #[↑l] 133 (0,0))) (.cells #[.slice none 0 0] 105 (0,0))).alloc (.cells #[.slice none 0 0] 40 (0,0))
 rw [aEI] at a4
 refine adW (λ W=>Blk W w.heap.size (.cells #[↑l] 133 (0,0))/\Blk W (w.heap.size+1) (.cells #[.slice none 0 0] 105 (0,0))/\AaA NoF w W) ⟨a3,a4,hk1⟩ ?_
 clear a3 a4 hk1
 rintro w1 ⟨a3,a4,hk1⟩
 have a6:=hk1.blk hl.out (λ f=>f)
 have a9:=hR.out.keeps hk1 (λ f=>f) (λ _ _ f=>f)
 have ai:l<w.heap.size:=ah.out
 clear c6 c7 cf
 generalize w.heap.size=bx at a3 a4 ai ⊢
 have x0:=a3.cell 0
 have c6:=a6.cell 6
 have c7:=a6.cell 7
 have cf:=a6.frz
 simp at x0 c6 c7
 have av:(⟨bx,0,none⟩:Addr)≠⟨l,7,none⟩:=by intro e;injection e with e1;omega
 have a7:Blk (w1.drew.setCell ⟨l,7,none⟩ (I L.tail)) l (logO d { L with head:=L.tail }):=a6.drew.setCell 7 (I L.tail)
 have a0:Blk (w1.drew.setCell ⟨l,7,none⟩ (I L.tail)) bx (.cells #[↑l] 133 (0,0)):=a3.drew.setCell_ne (p:=⟨l,7,none⟩) (by show bx≠l;omega) _
 have a1:Blk (w1.drew.setCell ⟨l,7,none⟩ (I L.tail)) (bx+1) (.cells #[.slice none 0 0] 105 (0,0)):=a4.drew.setCell_ne (p:=⟨l,7,none⟩) (by show bx+1≠l;omega) _
 have hk2:AaA (· = l) w (w1.drew.setCell ⟨l,7,none⟩ (I L.tail)):=((hk1.mono (G:=(· = l)) (λ _ _ f=>f.elim)).drew).setCell (p:=⟨l,7,none⟩) (.inl rfl) _
 have aa:AcO (w1.drew.setCell ⟨l,7,none⟩ (I L.tail)) g f bs L.n L.n lo:=
  ⟨a9.row.drew.setCell_ne (p:=⟨l,7,none⟩) (by show g≠l;omega) _,λ j hj hp=>⟨(a9.data j hj hp).1.drew.setCell_ne (p:=⟨l,7,none⟩) (ag.out j hj hp) _,(a9.data j hj hp).2⟩⟩
 have x0d:w1.drew.cell? ↑bx=some ↑l:=x0
 have c6d:w1.drew.cell? ⟨l,6,none⟩=some (I L.tail):=c6
 have x0e:=a0.cell 0
 have c6e:=a7.cell 6
 simp at x0e c6e
 replace ⟨a7,a0,a1,hk2,aa⟩:=yh5 a7 a0 a1 hk2 aa;clear a3 a4 hk1 a6 a9
 go_region_held3 (λ W=>W.cell? ↑bx=some ↑l/\W.cell? ⟨l,6,none⟩=some (I L.tail)) (first|with_reducible exact ⟨x0d,c6d⟩|exact ⟨x0e,c6e⟩) (fail)
 refine ahC (λ W=>Blk W bx (.cells #[↑l] 133 (0,0))/\Blk W (bx+1) (.cells #[.slice none 0 0] 105 (0,0))/\Blk W l (logO d { L with head:=L.tail })/\AcO W g f bs L.n L.n lo/\AaA (· = l) w W) ⟨a0.out,a1.out,a7.out,aa.out,hk2.out⟩ ?_
 clear a7 a0 a1 hk2 aa x0 c6 c7 cf av x0d c6d x0e c6e
 rename_i hHeld
 clear hHeld
 clear w1
 rintro w2 ⟨y0,y1,ak,al,am⟩
 have h5:=And.intro ((y0.alloc (.cells #[I 0] 3 (0,0))).alloc (.cells #[I 0] 3 (0,0))) (And.intro ((y1.alloc (.cells #[I 0] 3 (0,0))).alloc (.cells #[I 0] 3 (0,0))) (And.intro ((ak.alloc (.cells #[I 0] 3 (0,0))).alloc (.cells #[I 0] 3 (0,0)))
  (And.intro ((al.keeps (((AaA.refl NoF w2).alloc (.cells #[I 0] 3 (0,0))).alloc (.cells #[I 0] 3 (0,0))) (λ f=>f) (λ _ _ f=>f))) ((am.alloc (.cells #[I 0] 3 (0,0))).alloc (.cells #[I 0] 3 (0,0))))))
 replace h5:=hid h5
 clear y0 y1 ak al am
 go_wp2_with fail
 apply wp_label
 go_upto_region 6 with fail
 refine adW (λ W=>Blk W bx (.cells #[↑l] 133 (0,0))/\Blk W (bx+1) (.cells #[.slice none 0 0] 105 (0,0))/\Blk W l (logO d { L with head:=L.tail })/\AcO W g f bs L.n L.n lo/\AaA (· = l) w W) h5.out ?_
 clear h5
 rintro w4 ⟨y0,y1,ab,ac,ad⟩
 have x0:=y0.cell 0
 simp at x0
 have a2:=aD7 w4 l g L.n
 replace ⟨y1,ab,ac,ad,a2⟩:=yh5 y1 ab ac ad a2;clear y0
 go_wp2_with (go_at_call 247;refine a2.out.mono ?_;rintro e w5 ⟨rfl,hw5⟩;replace hw5:=hid hw5)
 have ae:w5=(w4.alloc (.cells #[↑l] 133 (0,0))).alloc (.cells #[.slice ↑g L.n L.n] 238 (0,0)):=hw5.out
 have z1:Blk w5 w4.heap.size (.cells #[↑l] 133 (0,0)):=by rw [ae];exact (Blk.new _ _).alloc _
 have z2:Blk w5 (w4.heap.size+1) (.cells #[.slice ↑g L.n L.n] 238 (0,0)):=by
  rw [ae]
  have:=Blk.new (w4.alloc (.cells #[↑l] 133 (0,0))) (.cells #[.slice ↑g L.n L.n] 238 (0,0))
  rwa [aEI] at this
 have k5:AaA NoF w4 w5:=by rw [ae];exact ((AaA.refl _ w4).alloc _).alloc _
 have af:=k5.blk ab.out (λ f=>f)
 have an:=k5.blk y1.out (λ f=>f)
 have ao:=ac.out.keeps k5 (λ f=>f) (λ _ _ f=>f)
 have hk5:=ad.out.trans k5 (λ _ _ f=>f.elim)
 clear ae k5 y1 ab ac ad hw5 a2 x0
 have a8:SeqStopsK (α:=Empty) Fence.wide (3 - 1) prog 260 #[↑w4.heap.size,↑(w4.heap.size+1)] (λ x=>x.elim) (λ _ _=>True) (λ _=>True) (λ _=>False) 0 w5:=by
  intro l' J Jx W hW hJ aB hY h0
  have kW:AaA NoF w5 W:=⟨hW.os,hW.tape,hW.output,hW.size,λ i hi _=>hW.block i hi⟩
  have hr:=auP (w:=W) (d:=d) (l:=l) (L:={ L with head:=L.tail }) (.func (.yield l') #[] #[]) w4.heap.size (w4.heap.size+1) g lo f bs (kW.blk z1 (λ f=>f)) (kW.blk z2 (λ f=>f)) (kW.blk af (λ f=>f)) (ao.keeps kW (λ f=>f) (λ _ _ f=>f)) ar au ht hs.out
  refine callsIn_wide.2 (hr.mono ?_)
  rintro e W' ⟨rfl,kW'⟩
  exact ⟨⟨_,rfl⟩,.inl ⟨[],trivial,hJ [] W W' none h0 (an2 kW') (λ r e=>by cases e)⟩⟩
 refine (wpIn_wide (n:=3)).1 (wpIn_rangeFunc_ownH (F:=Fence.wide) (α:=Empty) rfl (by decide) (gf:=260) (lb:=#[↑w4.heap.size,↑(w4.heap.size+1)]) rfl trivial (λ args w=>by kernel_rfl)
  a8 (λ _ _=>trivial) (λ _ _ _ _ _ _ _ _=>trivial) (Below.refl _ _) (λ x=>x.elim)
  (λ _ W=>AaA NoF w5 W) (λ _ _ _=>False) ?hI (λ _ _ _ _ _ h _ _=>h.elim) (AaA.refl _ _) (λ _ _ _=>False) (λ x=>x.elim) (λ _ _ x=>x.elim) (λ _ _ x=>x.elim) ?done (λ _ _ _ _ _ h=>h.elim))
 case hI=>
  intro _ W W' row h hg hr
  exact h.grown hg (λ k hk=>.inr (hr k hk).1)
 case done=>
  rintro D xs W hD _ kW a5
  have aj:=kW.blk af (λ f=>f)
  have hkW:=hk5.trans kW (λ _ _ f=>f.elim)
  have ap:=kW.blk an (λ f=>f)
  have yc:=ap.cell 0
  simp at yc
  have aw:w.heap.size<=D:=aE4 hk5.size hD
  have ax:=af.lt
  have ay:l≠D:=by omega
  clear a8 z1 z2 ao
  replace ⟨aj,hkW,a5⟩:=yh3 aj hkW a5;clear ap af an hk5 kW
  dsimp only
  go_wp2
  refine ⟨by simp,.inl ⟨_,_,rfl,run_takeDeferred a5.out,?_⟩⟩
  have aq:AaA (· = D) W (W.putObj D (.deferred none)):=
   ⟨rfl,rfl,rfl,by simp [World.putObj],λ k _ az=>World.putObj_heap_other az⟩
  exact ⟨_,results_tmp rfl _ _ _,rfl,aq.blk aj.out ay,hkW.out.fresh aq (λ i hi=>by rw [hi];exact aw)⟩
end
end Go.Vk
