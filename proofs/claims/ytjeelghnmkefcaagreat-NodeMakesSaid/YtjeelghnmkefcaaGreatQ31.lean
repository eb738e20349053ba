/- Part of the proof: Nq8 Nr1 Nr2 Nr3 Nr4 Lw3. -/
import Derived.Test.YtjeelghnmkefcaaGreatQ12
import Derived.Test.YtjeelghnmkefcaaGreatQ21
import Derived.Test.YtjeelghnmkefcaaGreatQ22
import Derived.Test.YtjeelghnmkefcaaGreatQ23
import Derived.Test.YtjeelghnmkefcaaGreatQ25
import Derived.Test.YtjeelghnmkefcaaGreatQ28
import Derived.Test.YtjeelghnmkefcaaGreatQ30
set_option linter.unusedVariables false
set_option maxHeartbeats 16000000
set_option maxRecDepth 100000
namespace Go.Vk
open Go.RowKit Go.Proofs
open Tryz (prog)
def part (n:Nd) (k:Nat):Nd:={ n with ptr:=n.ptr.take k++List.replicate (10 - k) 0++n.ptr.drop 10 }
theorem arS {n:Nd} (h:n.ptr.length=12) {k:Nat} (hk:k<=10):(part n k).ptr.length=12:=by
 show (n.ptr.take k++List.replicate (10 - k) 0++n.ptr.drop 10).length=12
 rw [aEH,aEH,aEM,aEW,aET,h]
 omega
theorem ax3 {n:Nd}:part n 10=n:=by
 unfold part
 rw [Nat.sub_self,List.replicate_zero,aE3,List.take_append_drop]
theorem ax4 {n:Nd} (h:n.ptr.length=12) {k:Nat} (hk:k<10):(ndC (part n k)).toArray.setIfInBounds (5+k) (I (n.ptr[k]'(by omega)))=(ndC (part n (k+1))).toArray:=by
 rw [List.setIfInBounds_toArray]
 congr 1
 have hp:(part n k).ptr.set k (n.ptr[k]'(by omega))=(part n (k+1)).ptr:=by
  show (n.ptr.take k++List.replicate (10 - k) 0++n.ptr.drop 10).set k (n.ptr[k]'(by omega))=n.ptr.take (k+1)++List.replicate (10 - (k+1)) 0++n.ptr.drop 10
  have l:(n.ptr.take k).length=k:=by rw [aEM];omega
  rw [aEQ,List.set_append_right _ _ (by omega),l,Nat.sub_self,show 10 - k=(10 - (k+1))+1 by omega,List.replicate_succ,List.cons_append,List.set_cons_zero]
  have e:n.ptr.take (k+1)=n.ptr.take k++[n.ptr[k]'(by omega)]:=aE6 (by omega)
  rw [e]
  simp only [aEQ,List.cons_append,List.nil_append]
 show ((ndL (part n k)).map (Value.int .i64)).set (5+k) _=(ndL (part n (k+1))).map (Value.int .i64)
 rw [← List.map_set]
 congr 1
 show (_ :: _ :: _ :: _ :: _ :: (part n k).ptr).set (5+k) _=_ :: _ :: _ :: _ :: _ :: (part n (k+1)).ptr
 rw [show 5+k=k+1+1+1+1+1 by omega]
 simp only [List.set_cons_succ]
 rw [hp]
 rfl
structure QdeS (w0 w:World) (vb:Nat) (n:Nd) (k:Nat):Prop where
 b:Blk w vb (.cells (ndC (part n k)).toArray 39 (0,0))
 k:AaA NoF w0 w
 lo:w0.heap.size<=vb
theorem aC4 (w:World) (g off cap:Nat) (bs:List UInt8) (hlen:bs.length=128) (hc:∀ j (h:j<bs.length),w.cell? ⟨g,off+j,none⟩=some (B bs[j])) :
  Calls prog 139 #[.slice (some ⟨g,off,none⟩) 128 cap] w (Ah3 w bs):=by
 have a5:=λ (W:World) (k:AaA NoF w W) (a n:Nat) (hn:n<=8) (hl:a+n<=128)=>aAY W g off cap a bs (λ j h=>k.cellF (hc j h) (λ f=>f)) n hn (by omega) (by omega)
 rw [hlen] at a5
 have hsl:Ab8 w (.slice (some ⟨g,off,none⟩) 128 cap) bs:=⟨some ⟨g,off,none⟩,cap,by rw [hlen],.inr ⟨g,off,rfl,λ i h=>hc i h⟩⟩
 have a2:AcM bs->∀ w',AaA NoF w w'->Ah3 w bs (U (.tuple #[ndV (decN bs),I 0])) w':=λ a w' b=>⟨b,.inl ⟨a,rfl⟩⟩
 have a4:¬ AcM bs->∀ w',AaA NoF w w'->Ah3 w bs (U (.tuple #[ndV Nd.zero,I 6])) w':=λ a w' b=>⟨b,.inr ⟨a,rfl⟩⟩
 generalize Ah3 w bs=Post at *
 have a0:=arN bs
 have aa:=(auR (bs:=bs))
 have aj:=λ h=>aAX (bs:=bs) h
 have g0:akB bs 0 1=(refN bs).kind:=alS (by decide)
 have g1:akB bs 2 2=(refN bs).links:=alS (by decide)
 have g2:akB bs 4 4=(refN bs).parent:=alS (by decide)
 have g3:akB bs 8 8=(refN bs).size:=aAZ _ _
 have g4:akB bs 16 4=(refN bs).owned:=alS (by decide)
 have gp:∀ k (hk:k<12),akB bs (24+4*k) 4=(refN bs).ptr[k]'(by rw [a0];exact hk):=λ k hk=>by
  rw [alS (by decide)]
  simp [refN]
 have T0:=λ W x=>a5 W x 0 1 (by decide) (by decide)
 have T1:=λ W x=>a5 W x 2 2 (by decide) (by decide)
 have T2:=λ W x=>a5 W x 4 4 (by decide) (by decide)
 have T3:=λ W x=>a5 W x 8 8 (by decide) (by decide)
 have T4:=λ W x=>a5 W x 16 4 (by decide) (by decide)
 have T5:=λ W x=>a5 W x 64 4 (by decide) (by decide)
 have T6:=λ W x=>a5 W x 68 4 (by decide) (by decide)
 have Tp:=λ k (hk:k<10) W x=>a5 W x (24+4*k) 4 (by decide) (by omega)
 rw [g0] at T0
 rw [g1] at T1
 rw [g2] at T2
 rw [g3] at T3
 rw [g4] at T4
 rw [show (64:Nat)=24+4*10 from rfl,gp 10 (by decide)] at T5
 rw [show (68:Nat)=24+4*11 from rfl,gp 11 (by decide)] at T6
 have Tp2:∀ k (hk:k<10) W,AaA NoF w W->Calls prog 202 #[.slice (some ⟨g,off,none⟩) 128 cap,I ((24+4*k:Nat):Int),I ((4:Nat):Int)] W λ e w'=>e=U (I ((refN bs).ptr[k]'(by rw [a0];omega)))/\W=w':=λ k hk W x=>by
  have:=Tp k hk W x
  rw [gp k (by omega)] at this
  exact this
 clear Tp g0 g1 g2 g3 g4 gp a5
 have ab:AD2 bs↔Ac4 (refN bs)/\encN (refN bs)=bs:=Iff.rfl
 generalize refN bs=N at *
 obtain ⟨d,ud,hd⟩:=acJ
 have kA:=(AaA.refl NoF w).alloc (ndO Nd.zero)
 have bA:=Blk.new w (ndO Nd.zero)
 replace ⟨T0,T1,T2,T3,T4,T5,T6,Tp2⟩:=yh8 T0 T1 T2 T3 T4 T5 T6 Tp2;replace ⟨a0,aa,aj,ab,a2,a4,hc,hlen⟩:=yh8 a0 aa aj ab a2 a4 hc hlen;replace ⟨kA,bA,ud,hd⟩:=yh4 kA bA ud hd;clear hsl
 go_enter Tryz.func139,Tryz.ntmps139
 go_upto_region 3 with fail
 change Code.wp _ _ _ _ (w.alloc (ndO Nd.zero))
 have lA:=bA.out.lt
 generalize w.alloc (ndO Nd.zero)=wA at *
 replace lA:=hid lA
 go_wp2_with fail
 refine (T0.out _ kA.out).mono ?_
 rintro e w2 ⟨rfl,rfl⟩
 go_wp2_with fail
 refine (T1.out _ kA.out).mono ?_
 rintro e w2 ⟨rfl,rfl⟩
 go_wp2_with fail
 refine (T2.out _ kA.out).mono ?_
 rintro e w2 ⟨rfl,rfl⟩
 go_wp2_with fail
 refine (T3.out _ kA.out).mono ?_
 rintro e w2 ⟨rfl,rfl⟩
 go_wp2_with fail
 refine (T4.out _ kA.out).mono ?_
 rintro e w2 ⟨rfl,rfl⟩
 go_wp2_with fail
 refine (T5.out _ kA.out).mono ?_
 rintro e w2 ⟨rfl,rfl⟩
 go_wp2_with fail
 refine (T6.out _ kA.out).mono ?_
 rintro e w2 ⟨rfl,rfl⟩
 clear T0 T1 T2 T3 T4 T5 T6
 have ac:N.ptr.drop 10=[N.ptr[10]'(by have:=a0.out;omega),N.ptr[11]'(by have:=a0.out;omega)]:=by
  have:=a0.out
  rw [aEX (by omega),aEX (by omega),List.drop_eq_nil_of_le (by omega)]
 have am:ndC (part N 0)=[I N.kind,I N.links,I N.parent,I N.size,I N.owned,I 0,I 0,I 0,I 0,I 0,I 0,I 0,I 0,I 0,I 0,I (N.ptr[10]'(by have:=a0.out;omega)),I (N.ptr[11]'(by have:=a0.out;omega))]:=by
  unfold ndC ndL part
  rw [ac]
  rfl
 have af:(part N 0).ptr.length=12:=arS a0.out (by decide)
 have hP:∀ k,k<=10->(part N k).ptr.length=12:=λ k h=>arS a0.out h
 have a7:∀ k (h:k<10),(ndC (part N k)).toArray.setIfInBounds (5+k) (I (N.ptr[k]'(by have:=a0.out;omega)))=(ndC (part N (k+1))).toArray:=λ k h=>ax4 a0.out h
 have ag:∀ k (h:k<10),N.ptr[k]'(by have:=a0.out;omega)=N.ptr.getD k 0:=λ k h=>by rw [aEL,aEG (by have:=a0.out;omega)];rfl
 clear ac
 generalize N.ptr[10]'(by have:=a0.out;omega)=p10 at *
 generalize N.ptr[11]'(by have:=a0.out;omega)=p11 at *
 dsimp only
 go_step
 refine abT rfl _ _ rfl (.agg #[I N.kind,I N.links,I N.parent,I N.size,I N.owned,I 0,I 0,I 0,I 0,I 0,I 0,I 0,I 0,I 0,I 0,I p10,I p11]) wA (by kernel_rfl) ?_
 simp only [wz]
 refine aa0 rfl _ rfl _ _ (abI _) ?_
 simp only [wz]
 rw [show (#[I N.kind,I N.links,I N.parent,I N.size,I N.owned,I 0,I 0,I 0,I 0,I 0,I 0,I 0,I 0,I 0,I 0,I p10,I p11]:Array Value)=(ndC (part N 0)).toArray by rw [am]]
 refine aaL rfl 39 (.tmp 4) (.tmp 26) rfl wA.heap.size 0 39 (ndC Nd.zero) (ndC (part N 0)) rfl rfl (Blk.new _ _) (by rw [aaM af];decide) (by rw [aaM af];exact aaK) (abJ _) ?_
 intro w3 b3 k3 _
 rw [aa4 (by rw [aaM af];rfl)] at b3
 have kB:AaA NoF w w3:=(kA.out.alloc (ndO Nd.zero)).fresh k3 (λ i e=>by have:=kA.out.size;omega)
 have kz:AaA NoF wA w3:=((AaA.refl NoF wA).alloc (ndO Nd.zero)).fresh k3 (λ i e=>by omega)
 have bB:=kz.blk bA.out (λ f=>f)
 have S0:QdeS w w3 wA.heap.size N 0:=⟨b3,kB,kA.out.size⟩
 have ak:w.heap.size<wA.heap.size:=lA.out
 clear b3 k3 kB kz am af kA
 generalize wA.heap.size=vb at *
 replace ⟨S0,bB,hP,a7,ag,ak⟩:=yh6 S0 bB hP a7 ag ak;clear bA
 go_wp2_with fail
 go_loopw [5] (λ i wr=>∃ k:Nat,k<=10/\i=I k/\QdeS w wr vb N k/\Blk wr w.heap.size (ndO Nd.zero)) (λ i _=>10 - (intOf i).toNat)
 case atStart=>exact ⟨0,by omega,rfl,S0.out,bB.out⟩
 case round=>
  obtain ⟨k,hk1,rfl,S1,b1⟩:=hrel
  clear S0 bB
  by_cases hlt:k<10
  ·have ap:(k:Int)<10:=by omega
   have aq:(0:Int)<=(k:Int):=by omega
   have ar:IntKind.i64.wrap (4*(k:Int))=4*(k:Int):=aaO (by omega) (by omega)
   have hw2:IntKind.i64.wrap (24+4*(k:Int))=24+4*(k:Int):=aaO (by omega) (by omega)
   have hT:=Tp2.out k hlt wr S1.k
   have hs:=a7.out k hlt
   rw [ag.out k hlt] at hT hs
   rw [show ((24+4*k:Nat):Int)=24+4*(k:Int) by omega] at hT
   generalize N.ptr.getD k 0=v at hT hs
   obtain ⟨old,ho⟩:∃ old,(ndC (part N k)).toArray[5+k]? = some (I old):=by
    have a1:=aaM (hP.out k (by omega))
    rw [List.getElem?_toArray,aBG]
    have:(ndL (part N k)).length=17:=by have:=a1;unfold ndC at this;rw [aEU] at this;exact this
    rw [aEG (by omega)]
    exact ⟨_,rfl⟩
   have c0:=(S1.b.cell (5+k)).trans ho
   have cf:=S1.b.frz
   have k2:=(AaA.refl (· = vb) wr).setCell (p:=⟨vb,5+k,none⟩) (.inl rfl) (I v)
   have S2:QdeS w (wr.setCell ⟨vb,5+k,none⟩ (I v)) vb N (k+1):=⟨by rw [← hs];exact S1.b.setCell (5+k) (I v),S1.k.fresh k2 (λ i e=>by have:=S1.lo;omega),S1.lo⟩
   have b2:=k2.blk b1 (λ e=>by have:=ak.out;omega)
   clear k2 ho
   replace ⟨S1,b1,hT,S2,b2⟩:=yh5 S1 b1 hT S2 b2;clear hs
   go_wp2_with fail
   refine hT.out.mono ?_
   rintro e w5 ⟨rfl,rfl⟩
   clear hT
   go_wp2_with fail
   go_roundw
   case rel=>exact ⟨k+1,by omega,by go_num,S2.out,b2.out⟩
   case measure=>simp [intOf];omega
  ·have ap:¬ (k:Int)<10:=by omega
   obtain rfl:k=10:=by omega
   have bN:Blk wr vb (.cells (ndC N).toArray 39 (0,0)):=by have:=S1.b;rw [ax3] at this;exact this
   have kN:=S1.k
   have ad:=auV wr (n:=N) a0.out
   have a1:=aaM a0.out
   have ah:=abR a0.out
   unfold ndV at ad
   clear S1 Tp2 a7 ag hP
   replace ⟨bN,kN,ad,a1,ah,b1⟩:=yh6 bN kN ad a1 ah b1
   go_wp2_with (refine aaN rfl 39 (.tmp 4) rfl vb 0 39 (ndC N) 17 d rfl bN.out (by rw [a1.out];decide) ud.out hd.out aaK ?_;rw [ah.out])
   refine ad.out.mono ?_
   rintro e w5 ⟨k5,hX⟩
   have bZ:=k5.blk b1.out (λ f=>f)
   have bV:=k5.blk bN.out (λ f=>f)
   have kZ:=kN.out.step k5
   clear ad bN b1 kN k5
   rcases hX with ⟨a8,ge,au,rfl,ae⟩|⟨an,rfl⟩
   ·have a6:=aA0 w5 (.slice ↑ge 128 128) (.slice (some ⟨g,off,none⟩) 128 cap) (encN N) bs ⟨some ⟨ge,0,none⟩,128,by rw [aeJ N a0.out],.inr ⟨ge,0,rfl,λ i h=>by rw [Nat.zero_add];exact adU ae i h⟩⟩ ⟨some ⟨g,off,none⟩,cap,by rw [hlen.out],.inr ⟨g,off,rfl,λ i h=>kZ.cellF (hc.out i h) (λ f=>f)⟩⟩ (by rw [aeJ N a0.out];decide) (by rw [hlen.out];decide)
    by_cases he:encN N=bs
    ·rw [decide_eq_true he] at a6
     have al:=aa.out.1 (ab.out.2 ⟨a8,he⟩)
     have ao:=aj.out al
     have ai:=a2.out al
     rw [← ao] at ai
     clear a4
     replace ⟨a6,bZ,bV,kZ,ai,ae,he,a8⟩:=yh8 a6 bZ bV kZ ai ae he a8;clear al ao
     go_wp2_with fail
     refine a6.out.mono ?_
     rintro e w6 ⟨rfl,m,rfl⟩
     replace bZ:=hid (bZ.out.drewN m)
     replace bV:=hid (bV.out.drewN m)
     replace kZ:=hid (kZ.out.drewN m)
     clear a6 ae
     generalize w5.drewN m=w6 at *
     go_upto_region 11 with fail
     go_step
     refine aaN rfl 39 (.tmp 4) rfl vb 0 39 (ndC N) 17 d rfl bV.out (by rw [a1.out];decide) ud.out hd.out aaK ?_
     rw [ah.out]
     simp only [wz]
     refine aaL rfl 39 (.tmp 2) (.tmp 53) rfl w.heap.size 0 39 (ndC Nd.zero) (ndC N) rfl rfl bZ.out (by rw [a1.out];decide) (by rw [a1.out];exact aaK) (abJ _) ?_
     intro w7 a3 hk7 _
     rw [aa4 (by rw [a1.out];rfl)] at a3
     have hPP:=ai.out w7 (kZ.out.fresh hk7 (λ i hi=>by omega))
     replace ⟨a3,hPP⟩:=yh2 a3 hPP
     go_wp2
     exact bodyPost_ret (v:=.tuple #[ndV N,I 0]) (acK rfl _ _ w.heap.size 39 (ndC N) d _ rfl rfl a3.out ud.out hd.out (by rw [a1.out];exact aaK)) rfl hPP.out
    ·rw [decide_eq_false he] at a6
     have a9:=a4.out (λ x=>he (ab.out.1 (aa.out.2 x)).2)
     clear a2
     replace ⟨a6,bZ,kZ,a9⟩:=yh4 a6 bZ kZ a9;clear bV ae he a8
     go_wp2_with fail
     refine a6.out.mono ?_
     rintro e w6 ⟨rfl,m,rfl⟩
     replace bZ:=hid (bZ.out.drewN m)
     replace kZ:=hid (kZ.out.drewN m)
     clear a6
     generalize w5.drewN m=w6 at *
     go_upto_region 10 with fail
     go_step
     refine abT rfl _ _ rfl (.agg (ndC Nd.zero).toArray) w6 (by kernel_rfl) ?_
     simp only [wz]
     refine aaL rfl 39 (.tmp 2) (.tmp 52) rfl w.heap.size 0 39 (ndC Nd.zero) (ndC Nd.zero) rfl rfl bZ.out (by decide) aaK (abJ _) ?_
     intro w7 a3 hk7 _
     rw [aa4 rfl] at a3
     have hPP:=a9.out w7 (kZ.out.fresh hk7 (λ i hi=>by omega))
     replace ⟨a3,hPP⟩:=yh2 a3 hPP
     go_wp2
     exact bodyPost_ret (v:=.tuple #[ndV Nd.zero,I 6]) (acK rfl _ _ w.heap.size 39 (ndC Nd.zero) d _ rfl rfl a3.out ud.out hd.out aaK) rfl hPP.out
   ·have a9:=a4.out (λ x=>an (ab.out.1 (aa.out.2 x)).1)
    clear a2 bV
    replace ⟨bZ,kZ,a9⟩:=yh3 bZ kZ a9;clear an
    go_upto_region 10 with fail
    go_step
    refine abT rfl _ _ rfl (.agg (ndC Nd.zero).toArray) w5 (by kernel_rfl) ?_
    simp only [wz]
    refine aaL rfl 39 (.tmp 2) (.tmp 52) rfl w.heap.size 0 39 (ndC Nd.zero) (ndC Nd.zero) rfl rfl bZ.out (by decide) aaK (abJ _) ?_
    intro w7 a3 hk7 _
    rw [aa4 rfl] at a3
    have hPP:=a9.out w7 (kZ.out.fresh hk7 (λ i hi=>by omega))
    replace ⟨a3,hPP⟩:=yh2 a3 hPP
    go_wp2
    exact bodyPost_ret (v:=.tuple #[ndV Nd.zero,I 6]) (acK rfl _ _ w.heap.size 39 (ndC Nd.zero) d _ rfl rfl a3.out ud.out hd.out aaK) rfl hPP.out
theorem anT (w:World):Calls prog 110 #[] w λ e w'=>e=U (.slice ↑w.heap.size 128 128)/\w'=w.alloc (aaE (aaD 128)):=by
 have a0:=aBH
 go_enter Tryz.func110,Tryz.ntmps110
 go_wp2
 go_ret
 exact ⟨rfl,rfl⟩
theorem ak9 (w:World) (k:Nat) (h1:1<=k) (h2:k<=4096):Calls prog 121 #[I k] w λ e w'=>e=U (I (nblk k:Nat))/\w=w':=by
 have hq:((k:Int) - 1).tdiv 4=(((k - 1) / 4:Nat):Int):=by rw [show ((k:Int) - 1)=((k - 1:Nat):Int) by omega];rfl
 have hb:2+(((k - 1) / 4:Nat):Int)=((nblk k:Nat):Int):=by unfold nblk;omega
 have a0:(((k - 1) / 4:Nat):Int)<=4096:=by omega
 generalize (k - 1) / 4=q at *
 go_enter Tryz.func121,Tryz.ntmps121
 go_wp2
 go_ret
 exact ⟨rfl,rfl⟩
theorem alK (w:World) (v:Value) (ls:List (List UInt8)) (us:List Value) (h:AeQ w v ls us) (h0:0<ls.length) (hl:ls.length<=4096) :
  Calls prog 111 #[v] w λ e w'=>∃ v',e=.returned v'/\w'.ownsRow w.heap.size 40 1 v' ls.length us/\AaA NoF w w':=by
 obtain ⟨i0,hi,a3,a4,hz2⟩:=info_parts an3
 obtain ⟨g,cap,rfl,_,_⟩:=ab9 h.1 h0
 have hk:=AaA.refl NoF w
 have a8:=h.2.1
 have hc:∀ j (x:j<us.length),w.cell? ⟨g,j,none⟩=some us[j]:=λ j x=>adS h.1 j _ (aEG x)
 have a5:∀ j (x:j<us.length),∃ a n c,us[j]=.slice a n c:=λ j x=>by
  obtain ⟨a,c,e⟩:=acG (h.2.2 j (by omega) us[j] (aEG x))
  exact ⟨a,_,c,e⟩
 have a2:∀ (W:World) v,W.ownsRow w.heap.size 40 1 v us.length (us.take us.length)->W.ownsRow w.heap.size 40 1 v us.length us:=λ W v h=>by
  rw [List.take_length] at h;exact h
 rw [← a8] at hl ⊢
 clear h h0 a8
 obtain ⟨n,hn⟩:∃ n,us.length=n:=⟨_,rfl⟩
 rw [hn] at a2 hl ⊢
 replace ⟨hi,a3,a4,hz2,hk,a2,hc,a5⟩:=yh8 hi a3 a4 hz2 hk a2 hc a5;replace hn:=hid hn
 go_enter Tryz.func111,Tryz.ntmps111
 go_wp2
 go_loopw [3,4] (λ v i wr=>∃ k:Nat,k<=n/\i=I k/\wr.ownsRow w.heap.size 40 1 v k (us.take k)/\AaA NoF w wr) (λ _ i _=>n - (intOf i).toNat)
 case atStart=>exact ⟨0,by omega,rfl,World.ownsRow_nil _ _ _ _,hk.out⟩
 case round=>
  obtain ⟨k,hk1,rfl,hown,hk2⟩:=hrel
  by_cases aa:k<n
  ·have ab:(k:Int)<n:=by omega
   have ac:0<=(k:Int)/\(k:Int)<(n:Nat):=by omega
   have a6:k<us.length:=by have:=hn.out;omega
   have a9:=hk2.cellF (hc.out k a6) (λ f=>f)
   obtain ⟨ba,bn,bc,hb⟩:=a5.out k a6
   have hsn:us.take (k+1)=us.take k++[us[k]]:=aE6 a6
   rw [hb] at a9 hsn
   replace ⟨hk2,hsn⟩:=yh2 hk2 hsn;clear hb
   go_wp2_with (at_builtin;refine wpList_append_own _ rfl _ _ 105 rfl w.heap.size 40 i0 (.slice none 0 0) 1 24 arB hi.out a3.out a4.out hz2.out rfl (by decide) _ _ _ rfl (hown.alloc _) ⟨wr.heap.size,0,none⟩ 1 1 [.slice ba bn bc] rfl rfl ?c1 ?c2 ?c3 ?c4 ?c5 ?_)
   case c1=>
    intro j u hj
    match j,hj with
    | 0,hj=>simp at hj;subst hj;simp [Addr.add]
   case c2=>intro u hu;simp at hu;subst hu;rfl
   case c3=>unfold maxLen;omega
   case c4=>omega
   case c5=>have:=hk2.out.size;simp;omega
   ·intro v' w1 a0 a1 hx
    have a7:=(hk2.out.alloc _).grown a1 (λ k hk=>.inr (aaV hown k hk))
    rw [← hsn.out] at a0
    replace ⟨a0,a7,hown⟩:=yh3 a0 a7 hown;clear a1
    clear a9
    go_wp2
    exact ⟨⟨k+1,by omega,by go_num,a0.out,a7.out⟩,by simp [intOf];omega⟩
  ·have ab:¬ (k:Int)<n:=by omega
   obtain rfl:k=n:=by omega
   replace ⟨hk2,hown⟩:=yh2 hk2 hown
   go_wp2
   go_ret
   exact ⟨u3,rfl,a2.out _ _ hown.out,hk2.out⟩
structure TabV where
 W:Value
 S:Value
 uW:List Value
 uS:List Value
structure AgX (w:World) (tb m:Nat) (R:RP) (was sl:List (List UInt8)) (V:TabV) (Z1 Z2:Nat->Prop):Prop where
 hm:Blk w tb (.cells #[↑m,V.W,V.S] 107 (0,0))
 rf:AcP w m R Z1
 ow:AeQ w V.W was V.uW
 os:AeQ w V.S sl V.uS
 zt:Z2 tb
 zw:InZ Z2 V.W
 zs:InZ Z2 V.S
 zuw:∀ u∈V.uW,InZ Z2 u
 zus:∀ u∈V.uS,InZ Z2 u
 dj:∀ i,Z1 i->¬ Z2 i
 lt:∀ i,Z1 i∨Z2 i->i<w.heap.size
 ds:V.S.ownBlock≠V.W.ownBlock
 lw:was.length=R.nodes/\sl.length=R.nodes
 l8:(∀ l∈was,l.length=128)/\(∀ l∈sl,l.length=128)
def AjV (w:World) (bs:List UInt8) (e:Ending) (w':World):Prop:=
 AaA NoF w w'/\e=U (.tuple #[ndV (rdN bs).2,I ((rdN bs).1:Nat)])
section
variable {w:World} {tb m:Nat} {R:RP} {was sl:List (List UInt8)} {V:TabV} {Z1 Z2:Nat->Prop}
theorem az8 (h:AgX w tb m R was sl V Z1 Z2) (k:Nat) (h1:1<=k) (h2:k<=sl.length) (h3:sl.length<=4096) :
  Calls prog 66 #[↑tb,I k] w (AjV w (sl[k - 1]'(by omega))):=by
 obtain ⟨g,cap,hS,_,_⟩:=ab9 h.os.1 (by omega)
 have a9:=h.os.2.1
 have hu:V.uS[k - 1]? = some (V.uS[k - 1]'(by omega)):=aEG (by omega)
 have a2:=h.os.2.2 (k - 1) (by omega) _ hu
 have hl:=h.l8.2 (sl[k - 1]'(by omega)) (List.getElem_mem _)
 have ho:=h.os.1
 rw [hS] at ho
 have a4:=adS ho (k - 1) _ hu
 generalize V.uS[k - 1]'(by omega)=u at a2 a4
 generalize sl[k - 1]'(by omega)=bs at a2 hl ⊢
 unfold Ab5 at a2
 obtain ⟨gr,cr,rfl,_,_⟩:=ab9 a2 (by omega)
 have a8:∀ j (x:j<bs.length),w.cell? ⟨gr,0+j,none⟩=some (B bs[j]):=λ j x=>by
  rw [Nat.zero_add]
  exact adS a2 j _ (by rw [aEZ,aEG x];rfl)
 rw [hl] at a2 a4
 have hD:=λ (W:World) (x:AaA NoF w W)=>aC4 W gr 0 cr bs hl (λ j y=>x.cellF (a8 j y) (λ f=>f))
 have c2:=h.hm.cell 2
 rw [hS] at c2
 simp at c2
 obtain ⟨n,hn⟩:∃ n,sl.length=n:=⟨_,rfl⟩
 rw [hn] at c2 h2 h3
 obtain ⟨q,rfl⟩:∃ q,k=q+1:=⟨k - 1,by omega⟩
 rw [Nat.add_sub_cancel] at a4
 have hq1:((q+1:Nat):Int) - 1=(q:Nat):=by omega
 have hq2:IntKind.i64.wrap (((q+1:Nat):Int) - 1)=(q:Nat):=by rw [hq1];exact aaO (by omega) (by omega)
 have hP:∀ w',AaA NoF w w'->AjV w bs (U (.tuple #[ndV (rdN bs).2,I ((rdN bs).1:Nat)])) w':=λ w' x=>⟨x,rfl⟩
 have hR:=ac7 bs
 have a0:=abZ bs
 generalize AjV w bs=Post at *
 obtain ⟨d,ud,hd⟩:=acJ
 have kA:=(AaA.refl NoF w).alloc (ndO Nd.zero)
 have bA:=Blk.new w (ndO Nd.zero)
 have aa:(q:Int)<(n:Nat):=by omega
 have ab:(0:Int)<=(q:Nat):=by omega
 rw [show ((q+1:Nat):Int)=(q:Int)+1 by omega] at hq1 hq2 ⊢
 clear ho h hS a9 hu a2 a8 hl
 replace ⟨hD,hP,hR,a0,ud,hd,kA,bA⟩:=yh8 hD hP hR a0 ud hd kA bA;replace hn:=hid hn
 go_enter Tryz.func66,Tryz.ntmps66
 go_upto_region 1 with fail
 change Code.wp _ _ _ _ (w.alloc (ndO Nd.zero))
 have lA:=bA.out.lt
 have a6:=aaU a4 (ndO Nd.zero)
 have c22:=aaU c2 (ndO Nd.zero)
 generalize w.alloc (ndO Nd.zero)=wA at *
 replace lA:=hid lA
 go_wp2_with fail
 refine (hD.out _ kA.out).mono ?_
 rintro e w5 ⟨k5,hX⟩
 have kB:=kA.out.step k5
 have bB:=k5.blk bA.out (λ f=>f)
 clear a6 c22 a4 c2 hD kA bA
 rcases hX with ⟨a5,rfl⟩|⟨a7,rfl⟩
 ·by_cases a3:(decN bs).kind=0
  ·have hr:rdN bs=(70,Nd.zero):=by
    rcases hR.out with ⟨_,_,z⟩|⟨_,y,_⟩|⟨x,_⟩
    ·exact z
    ·exact absurd a3 y
    ·exact absurd a5 x
   rw [hr] at hP
   go_upto_region 2 with (first
    | (refine aa0 rfl _ rfl _ _ (abI _) ?_;simp only [wz])
    | (refine aaL rfl 39 (.tmp 6) (.tmp 18) rfl w5.heap.size 0 39 (ndC Nd.zero) (ndC (decN bs)) rfl rfl (Blk.new _ _) (by rw [aaM a0.out];decide) (by rw [aaM a0.out];exact aaK) (abJ _) ?_;intro w6 b6 k6 _;rw [aa4 (by rw [aaM a0.out];rfl)] at b6))
   have kz:AaA NoF w5 w6:=((AaA.refl NoF w5).alloc (ndO Nd.zero)).fresh k6 (λ i e=>by omega)
   have kC:=kB.step kz
   have bC:=kz.blk bB (λ f=>f)
   have hnb:w.heap.size<w5.heap.size:=by have:=lA.out;have:=k5.size;omega
   have c0:=(b6.cell 0).trans (abF (n:=(decN bs)) a0.out).1
   generalize w5.heap.size=nb at *
   clear k6 kz bB kB k5
   have kb:((decN bs).kind == 0)=true:=by simpa using a3
   replace ⟨bC,kC,b6,hnb,a5,a3,hr⟩:=yh7 bC kC b6 hnb a5 a3 hr
   go_upto_region 5 with fail
   go_step
   refine abT rfl _ _ rfl (.agg (ndC Nd.zero).toArray) w6 (by kernel_rfl) ?_
   simp only [wz]
   refine aaL rfl 39 (.tmp 4) (.tmp 26) rfl w.heap.size 0 39 (ndC Nd.zero) (ndC Nd.zero) rfl rfl bC.out (by decide) aaK (abJ _) ?_
   intro w7 a1 hk7 _
   rw [aa4 rfl] at a1
   have hPP:=hP.out w7 (kC.out.fresh hk7 (λ i hi=>by omega))
   replace ⟨a1,hPP⟩:=yh2 a1 hPP
   go_wp2
   exact bodyPost_ret (v:=.tuple #[ndV Nd.zero,I 70]) (acK rfl _ _ w.heap.size 39 (ndC Nd.zero) d _ rfl rfl a1.out ud.out hd.out aaK) rfl hPP.out
  ·have hr:rdN bs=(0,decN bs):=by
    rcases hR.out with ⟨_,y,_⟩|⟨_,_,z⟩|⟨x,_⟩
    ·exact absurd y a3
    ·exact z
    ·exact absurd a5 x
   rw [hr] at hP
   go_upto_region 2 with (first
    | (refine aa0 rfl _ rfl _ _ (abI _) ?_;simp only [wz])
    | (refine aaL rfl 39 (.tmp 6) (.tmp 18) rfl w5.heap.size 0 39 (ndC Nd.zero) (ndC (decN bs)) rfl rfl (Blk.new _ _) (by rw [aaM a0.out];decide) (by rw [aaM a0.out];exact aaK) (abJ _) ?_;intro w6 b6 k6 _;rw [aa4 (by rw [aaM a0.out];rfl)] at b6))
   have kz:AaA NoF w5 w6:=((AaA.refl NoF w5).alloc (ndO Nd.zero)).fresh k6 (λ i e=>by omega)
   have kC:=kB.step kz
   have bC:=kz.blk bB (λ f=>f)
   have hnb:w.heap.size<w5.heap.size:=by have:=lA.out;have:=k5.size;omega
   have c0:=(b6.cell 0).trans (abF (n:=(decN bs)) a0.out).1
   generalize w5.heap.size=nb at *
   clear k6 kz bB kB k5
   have kb:((decN bs).kind == 0)=false:=by simpa using a3
   replace ⟨bC,kC,b6,hnb,hr⟩:=yh5 bC kC b6 hnb hr;clear a5 a3
   go_upto_region 6 with fail
   go_step
   refine aaN rfl 39 (.tmp 6) rfl nb 0 39 (ndC (decN bs)) 17 d rfl b6.out (by rw [aaM a0.out];decide) ud.out hd.out aaK ?_
   rw [abR a0.out]
   simp only [wz]
   refine aaL rfl 39 (.tmp 4) (.tmp 27) rfl w.heap.size 0 39 (ndC Nd.zero) (ndC (decN bs)) rfl rfl bC.out (by rw [aaM a0.out];decide) (by rw [aaM a0.out];exact aaK) (abJ _) ?_
   intro w7 a1 hk7 _
   rw [aa4 (by rw [aaM a0.out];rfl)] at a1
   have hPP:=hP.out w7 (kC.out.fresh hk7 (λ i hi=>by omega))
   replace ⟨a1,hPP⟩:=yh2 a1 hPP
   go_wp2
   exact bodyPost_ret (v:=.tuple #[ndV (decN bs),I 0]) (acK rfl _ _ w.heap.size 39 (ndC (decN bs)) d _ rfl rfl a1.out ud.out hd.out (by rw [aaM a0.out];exact aaK)) rfl hPP.out
 ·have hr:rdN bs=(6,Nd.zero):=by
   rcases hR.out with ⟨x,_,_⟩|⟨x,_,_⟩|⟨_,z⟩
   ·exact absurd x a7
   ·exact absurd x a7
   ·exact z
  rw [hr] at hP
  go_upto_region 2 with (first
   | (refine aa0 rfl _ rfl _ _ (abI _) ?_;simp only [wz])
   | (refine aaL rfl 39 (.tmp 6) (.tmp 18) rfl w5.heap.size 0 39 (ndC Nd.zero) (ndC Nd.zero) rfl rfl (Blk.new _ _) (by decide) aaK (abJ _) ?_;intro w6 b6 k6 _;rw [aa4 rfl] at b6))
  have kz:AaA NoF w5 w6:=((AaA.refl NoF w5).alloc (ndO Nd.zero)).fresh k6 (λ i e=>by omega)
  have kC:=kB.step kz
  have bC:=kz.blk bB (λ f=>f)
  have hnb:w.heap.size<w5.heap.size:=by have:=lA.out;have:=k5.size;omega
  have c0:=(b6.cell 0).trans (abF (n:=Nd.zero) rfl).1
  generalize w5.heap.size=nb at *
  clear k6 kz bB kB k5
  replace ⟨bC,kC⟩:=yh2 bC kC;clear b6 hnb a7 hr
  go_upto_region 3 with fail
  go_step
  refine abT rfl _ _ rfl (.agg (ndC Nd.zero).toArray) w6 (by kernel_rfl) ?_
  simp only [wz]
  refine aaL rfl 39 (.tmp 4) (.tmp 22) rfl w.heap.size 0 39 (ndC Nd.zero) (ndC Nd.zero) rfl rfl bC.out (by decide) aaK (abJ _) ?_
  intro w7 a1 hk7 _
  rw [aa4 rfl] at a1
  have hPP:=hP.out w7 (kC.out.fresh hk7 (λ i hi=>by omega))
  replace ⟨a1,hPP⟩:=yh2 a1 hPP
  go_wp2
  exact bodyPost_ret (v:=.tuple #[ndV Nd.zero,I 6]) (acK rfl _ _ w.heap.size 39 (ndC Nd.zero) d _ rfl rfl a1.out ud.out hd.out aaK) rfl hPP.out
end
section
variable {w:World} {tb m:Nat} {R:RP} {was sl:List (List UInt8)} {V:TabV} {Z1 Z2:Nat->Prop}
theorem at2 (h:AgX w tb m R was sl V Z1 Z2) (k:Int):Calls prog 117 #[↑tb,I k] w λ e w'=>e=U (I ((⟨R,was,sl⟩:TB).ranged k:Nat))/\w=w':=by
 have hS:=aeF h.rf
 have c0:=h.hm.cell 0
 simp at c0
 obtain ⟨RV,hr⟩:=h.rf
 have c1:=hr.hm.cell 1
 simp at c1
 show Calls prog 117 #[↑tb,I k] w λ e w'=>e=U (I ((if R.state=0 then (if k<1∨(R.nodes:Int)<k then 11 else 0) else R.state:Nat):Nat))/\w=w'
 generalize R.state=st at *
 generalize R.nodes=n at *
 clear h hr
 by_cases h0:st=0
 ·subst h0
  rw [if_pos rfl]
  by_cases h1:k<1
  ·have b1:decide (k<1)=true:=decide_eq_true h1
   rw [if_pos (.inl h1)]
   replace ⟨hS,h1⟩:=yh2 hS h1
   go_enter Tryz.func117,Tryz.ntmps117
   go_wp2_with fail
   refine hS.out.mono ?_
   rintro e w5 ⟨rfl,rfl⟩
   go_wp2_with fail
   go_ret
   exact ⟨rfl,rfl⟩
  ·have b1:decide (k<1)=false:=decide_eq_false h1
   by_cases h2:(n:Int)<k
   ·have b2:decide ((n:Int)<k)=true:=decide_eq_true h2
    rw [if_pos (.inr h2)]
    replace ⟨hS,h1,h2⟩:=yh3 hS h1 h2
    go_enter Tryz.func117,Tryz.ntmps117
    go_wp2_with fail
    refine hS.out.mono ?_
    rintro e w5 ⟨rfl,rfl⟩
    go_wp2_with fail
    go_ret
    exact ⟨rfl,rfl⟩
   ·have b2:decide ((n:Int)<k)=false:=decide_eq_false h2
    rw [if_neg (λ x=>x.elim h1 h2)]
    replace hS:=hid hS;clear h1 h2
    go_enter Tryz.func117,Tryz.ntmps117
    go_wp2_with fail
    refine hS.out.mono ?_
    rintro e w5 ⟨rfl,rfl⟩
    go_wp2_with fail
    go_ret
    exact ⟨rfl,rfl⟩
 ·have b0:((st:Int) != 0)=true:=by simpa using h0
  rw [if_neg h0]
  replace hS:=hid hS;clear h0
  go_enter Tryz.func117,Tryz.ntmps117
  go_wp2_with fail
  refine hS.out.mono ?_
  rintro e w5 ⟨rfl,rfl⟩
  go_wp2_with fail
  go_ret
  exact ⟨rfl,rfl⟩
end
def Aa3 (w:World) (tb m:Nat) (B:TB) (Z:Nat->Prop):Prop:=∃ V Z1 Z2,AgX w tb m B.R B.was B.sl V Z1 Z2/\∀ i,Z1 i∨Z2 i->Z i
structure AaS (w w':World) (tb m:Nat) (B':TB) (Z:Nat->Prop):Prop where
 rep:Aa3 w' tb m B' (Zn w w' Z)
 k:AaA Z w w'
section
variable {w0 w w':World} {tb m:Nat} {R R':RP} {B B':TB} {was sl:List (List UInt8)} {V:TabV} {Z Z1 Z2:Nat->Prop}
theorem AgX.keeps (h:AgX w tb m R was sl V Z1 Z2) {F:Nat->Prop} (k:AaA F w w') (hF:∀ i,Z1 i∨Z2 i->¬ F i):AgX w' tb m R was sl V Z1 Z2:=
 { h with
  hm:=k.blk h.hm (hF _ (.inr h.zt))
  rf:=h.rf.keeps k (λ i z=>hF i (.inl z))
  ow:=h.ow.keeps k (λ i z=>hF i (.inr z)) h.zw h.zuw
  os:=h.os.keeps k (λ i z=>hF i (.inr z)) h.zs h.zus
  lt:=λ i z=>aEJ (h.lt i z) k.size }
theorem AgX.doc (h:AgX w tb m R was sl V Z1 Z2) (s:AdV w w' m R' Z1) (hn:R'.nodes=R.nodes):AgX w' tb m R' was sl V (Zn w w' Z1) Z2:=
 { h with
  hm:=s.k.blk h.hm (λ z=>h.dj _ z h.zt)
  rf:=s.rep
  ow:=h.ow.keeps s.k (λ i z y=>h.dj i y z) h.zw h.zuw
  os:=h.os.keeps s.k (λ i z y=>h.dj i y z) h.zs h.zus
  dj:=λ i z y=>z.elim (λ z=>h.dj i z y) (λ z=>by have:=h.lt i (.inr y);omega)
  lt:=λ i z=>by
   rcases z with (z|z)|z
   ·exact aEJ (h.lt i (.inl z)) s.k.size
   ·exact z.2
   ·exact aEJ (h.lt i (.inr z)) s.k.size
  lw:=⟨h.lw.1.trans hn.symm,h.lw.2.trans hn.symm⟩ }
theorem Aa3.up {Z':Nat->Prop} (h:Aa3 w tb m B Z) (hZ:∀ i,Z i->Z' i):Aa3 w tb m B Z':=by
 obtain ⟨V,Z1,Z2,a,b⟩:=h
 exact ⟨V,Z1,Z2,a,λ i x=>hZ i (b i x)⟩
theorem Aa3.keeps (h:Aa3 w tb m B Z) {F:Nat->Prop} (k:AaA F w w') (hF:∀ i,Z i->¬ F i):Aa3 w' tb m B Z:=by
 obtain ⟨V,Z1,Z2,a,b⟩:=h
 exact ⟨V,Z1,Z2,a.keeps k (λ i x=>hF i (b i x)),b⟩
theorem AaS.quiet (h:Aa3 w tb m B Z) (k:AaA NoF w w'):AaS w w' tb m B Z:=
 ⟨(h.keeps k (λ _ _ f=>f)).up λ _ h=>.inl h,k.mono λ _ _ f=>f.elim⟩
theorem AaS.trans {w1 w2:World} {B1 B2:TB} (h:AaS w0 w1 tb m B1 Z) (h':AaS w1 w2 tb m B2 (Zn w0 w1 Z)):AaS w0 w2 tb m B2 Z:=
 ⟨h'.rep.up λ i hi=>Zn.trans h.k.size h'.k.size hi,h.k.trans h'.k (λ i hi f=>f.elim id (λ x=>by omega))⟩
theorem AaS.doc (h:AgX w tb m R was sl V Z1 Z2) (hz:∀ i,Z1 i∨Z2 i->Z i) (s:AdV w w' m R' Z1) (hn:R'.nodes=R.nodes):AaS w w' tb m ⟨R',was,sl⟩ Z:=
 ⟨⟨V,_,Z2,h.doc s hn,λ i x=>by
  rcases x with (x|x)|x
  ·exact .inl (hz i (.inl x))
  ·exact .inr x
  ·exact .inl (hz i (.inr x))⟩,s.k.mono λ i _ z=>hz i (.inl z)⟩
end
end Go.Vk
namespace Go.Vk
open Go.RowKit
theorem ahR {D:DM} (h:D.Wf) (s l n:Nat):AcF D (ad2 (ad5 s l n) D).2 (D.n+l+5):=by
 have hw:∀ {D:DM} (_:D.Wf),AcF D (fmtW D).2 1:=λ h=>h.wr 0 (aaF 512)
 have hz:∀ {D:DM} (_:D.Wf),AcF D (fmtZ D).2 (D.n - 1):=λ h=>DM.Wf.zeroRun _ h 1
 have hl:∀ {D:DM} (_:D.Wf),AcF D (fmtL l D).2 (l+3):=λ h=>h.walFormatM 1 l
 have hs:∀ {D:DM} (_:D.Wf),AcF D (fmtS s l n D).2 1:=λ h=>h.wr 0 (aeI s l n)
 have a0:∀ {D:DM} (_:D.Wf),AcF D (ad2 [] D).2 0:=λ h=>AcF.refl h 0
 have h7:∀ {D:DM} (_:D.Wf),AcF D (ad2 [DM.fl] D).2 0:=λ h=>acW h.fl (λ _=>a0 h.fl.wf) (by omega)
 have h6:∀ {D:DM} (_:D.Wf),AcF D (ad2 [fmtS s l n,DM.fl] D).2 1:=λ h=>acW (hs h) (λ _=>h7 (hs h).wf) (by omega)
 have h5:∀ {D:DM} (_:D.Wf),AcF D (ad2 [fmtL l,fmtS s l n,DM.fl] D).2 (l+4):=λ h=>acW (hl h) (λ _=>h6 (hl h).wf) (by omega)
 have h4:∀ {D:DM} (_:D.Wf),AcF D (ad2 [DM.fl,fmtL l,fmtS s l n,DM.fl] D).2 (l+4):=λ h=>acW h.fl (λ _=>h5 h.fl.wf) (by omega)
 have h3:∀ {D:DM} (_:D.Wf),AcF D (ad2 [fmtZ,DM.fl,fmtL l,fmtS s l n,DM.fl] D).2 (D.n+l+4):=λ h=>acW (hz h) (λ _=>h4 (hz h).wf) (by omega)
 have h2:∀ {D:DM} (_:D.Wf),AcF D (ad2 [DM.fl,fmtZ,DM.fl,fmtL l,fmtS s l n,DM.fl] D).2 (D.n+l+4):=λ {D} h=>acW h.fl (b:=D.n+l+4) (λ _=>by have:=h3 h.fl.wf;rw [h.fl.n] at this;exact this) (by omega)
 exact acW (hw h) (b:=D.n+l+4) (λ _=>by have:=h2 (hw h).wf;rw [(hw h).n] at this;exact this) (by omega)
theorem Is.new (n:Nat) (h1:1<=n) (h2:n<=2048):Is (DM.new n) n 1 (λ _=>aaD 512):=by
 have hl:(DM.new n).dur.length=512*n:=aaF _
 have hn:(DM.new n).n=n:=by simp only [DM.n,hl];omega
 refine ⟨⟨by rw [hl,hn],by rw [hn];exact h1,by rw [hn];exact h2,λ k b hb=>by cases hb⟩,rfl,hn,rfl,λ j hj=>?_⟩
 show ((aaD (512*n)).drop (512*j)).take 512=aaD 512
 unfold aaD
 rw [List.drop_replicate,List.take_replicate]
 congr 1
 omega
def fmtD (s l n:Nat):DM:=(ad2 (ad5 s l n) (DM.new s).took).2
def newD (s l n:Nat):DM:=(ab0 (afS (fmtD s l n) l) 1 2 0).2
theorem akK {s l n j:Nat} (h:2<=j):fmtG s l n j=aaD 512:=by
 unfold fmtG
 rw [if_neg (by omega),if_neg (by omega)]
section
variable {s l n:Nat}
theorem apI (hp:AbY s l n) (h2:s<=2048):∃ life,ad2 (ad5 s l n) (DM.new s).took=(0,fmtD s l n)/\Is (fmtD s l n) s life (fmtG s l n):=by
 have h1:1<=s:=by unfold AbY at hp;omega
 obtain ⟨D',e,hI⟩:=(Is.new s h1 h2).took.format s l n hp rfl
 have ed:fmtD s l n=D':=by unfold fmtD;rw [e]
 rw [ed]
 exact ⟨_,e,hI⟩
theorem avV (hp:AbY s l n) (h2:s<=2048):Aw1 (fmtD s l n) s l n 1 0:=by
 obtain ⟨life,e,hI⟩:=apI hp h2
 have hp':=hp
 unfold AbY at hp'
 have n0:(fmtD s l n).now 0=ac0 s l n:=hI.now 0 (by omega)
 have n1:(fmtD s l n).now 1=abW:=hI.now 1 (by omega)
 have n2:(fmtD s l n).now 2=aaD 512:=(hI.now 2 (by omega)).trans (akK (by omega))
 have n3:∀ j,j<l->(fmtD s l n).now (3+j)=aaD 512:=λ j hj=>(hI.now (3+j) (by omega)).trans (akK (by omega))
 have a0:=aAG hp
 refine ⟨hI.burnt,by rw [n0];exact apL hp,by rw [n0];exact a0.1,by rw [n0];exact a0.2.1,by rw [n0];exact a0.2.2,hI.n.symm,by rw [n1,n2];exact atG,?_,?_,?_⟩
 ·rw [aoN _ 1 l (λ j hj=>by rw [n3 j hj,ag3];exact aEY _)];decide
 ·left
  show (abS ((fmtD s l n).now (3+0 % l))).epoch≠1
  rw [n3 _ (by rw [Nat.zero_mod];omega),ag3];decide
 ·have h1:1<=s:=by omega
  have hs:=ahR (Is.new s h1 h2).took.wf s l n
  have hw:=hs.writes
  have hn:(DM.new s).took.n=s:=(Is.new s h1 h2).took.n
  rw [hn] at hw
  have h0:(DM.new s).took.writes=0:=rfl
  rw [h0] at hw
  show (fmtD s l n).writes<_
  unfold fmtD
  omega
theorem aB1 (hp:AbY s l n) (h2:s<=2048):topK (λ j=>(fmtD s l n).now (3+j)) 1 l=1:=by
 obtain ⟨life,e,hI⟩:=apI hp h2
 have hp':=hp
 unfold AbY at hp'
 exact aoN _ 1 l (λ j hj=>by
  have:(fmtD s l n).now (3+j)=aaD 512:=(hI.now (3+j) (by omega)).trans (akK (by omega))
  show (abS ((fmtD s l n).now (3+j))).epoch<=1
  rw [this,ag3];exact aEY _)
theorem al1 (hp:AbY s l n) (h2:s<=2048):∃ life g,ab0 (afS (fmtD s l n) l) 1 2 0=(0,newD s l n)/\Is (newD s l n) s life g/\life=wrap64 ((fmtD s l n).life+1)/\∀ j,3<=j->g j=aaD 512:=by
 obtain ⟨life,e,hI⟩:=apI hp h2
 have hp':=hp
 unfold AbY at hp'
 have hO:Is (afS (fmtD s l n) l) s (wrap64 (life+1)) (fmtG s l n):=((hI.readed.took.readed.readed).readedN l).flushed
 have g1:fmtG s l n 1=abW:=rfl
 have g2:fmtG s l n 2=aaD 512:=akK (aEK _)
 have ha:aaJ abW=4294967296:=by
  have:adG abW=some (4294967296,[]):=afE 1 4294967296 (by decide) (by decide) (by decide)
  unfold aaJ;rw [this]
 obtain ⟨D',e2,h3⟩:=hO.anchorM 1 2 0 (by omega) (by rw [g1,g2,adH,ha];decide)
 have ed:newD s l n=D':=by unfold newD;rw [e2]
 rw [ed]
 refine ⟨_,_,e2,h3,by rw [hI.lf],λ j hj=>?_⟩
 have hr:=ah6 (fmtG s l n 1) (fmtG s l n 2)
 have:¬ j=1+ac6 (fmtG s l n 1) (fmtG s l n 2):=by omega
 show (if j=1+ac6 (fmtG s l n 1) (fmtG s l n (1+1)) then _ else fmtG s l n j)=_
 rw [if_neg this,akK (by omega)]
end
end Go.Vk
