/- Part of the proof: Na3 Na4 Na5. -/
import Derived.Test.YtjeelghnmkefcaaGreatQ10
import Derived.Test.YtjeelghnmkefcaaGreatQ26
set_option linter.unusedVariables false
set_option maxHeartbeats 16000000
set_option maxRecDepth 100000
namespace Go.Vk
open Go.RowKit Go.Proofs
open Tryz (prog)
theorem atW:(prog).underlying 48=some (.slice 3):=Tryz.underlying48
theorem aaY {P:Program} {w:World} {ops:Array Oper} {rest:List Oper} {o:Oper} {a:Act} {Q:Exit->Act->World->Prop} (a0:o.guard=none) (t:TypeId) (x:Operand) (ho:o.op=.box t x) (v:Value) (w':World)
  (hr:(Instr.box t (a.eval x)).run P w=.ok v w') (h:wpList P ops Q rest (a.put o.dst v) w'):wpList P ops Q (o :: rest) a w:=by
 refine wpList_plain a0 λ K hK=>?_
 unfold Oper.wp
 simp only [execOp,ho,Sem.run_bind,hr,Result.andThen_ok,Sem.run_pure]
 exact hK _ _ h
theorem alD (w:World) {n:Nd} (hn:n.ptr.length=12):(binOp .eql 39 (.agg (ndC n).toArray) (.agg #[I 0,I 0,I 0,I 0,I 0,I 0,I 0,I 0,I 0,I 0,I 0,I 0,I 0,I 0,I 0,I 0,I 0])).run prog w=.ok (.bool (decide (n=Nd.zero))) w:=arT w hn (b:=Nd.zero) rfl
theorem ajG:(prog).eqGuardType (prog).depth 39=false:=by kernel_rfl
theorem abR {n:Nd} (hn:n.ptr.length=12):((ndC n).drop 0).take 17=ndC n:=by rw [aER,aEO (by rw [aaM hn];decide)]
theorem avX (w:World) {n:Nd} (hn:n.ptr.length=12) (h0:n=Nd.zero):Calls prog 181 #[ndV n] w λ e w'=>e=U ↑true/\AaA NoF w w':=by
 have hq:=λ w=>alD w hn
 have a0:=aeL w n
 have a1:Blk (w.alloc (ndO n)) w.heap.size (ndO n):=Blk.new w _
 rw [decide_eq_true h0] at hq
 obtain ⟨d,ud,hd⟩:=acJ
 have hg:=ajG
 have a2:=abR hn
 have hl:=aaM hn
 have hk:=(AaA.refl NoF w).alloc (ndO n)
 unfold ndV at a0 ⊢
 unfold ndO at a1 a0 hk
 generalize ndC n=cl at *
 generalize w.alloc (.cells cl.toArray 39 (0,0))=w1 at *
 replace ⟨a1,ud,hd,hk,a2,hl,hn,a0⟩:=yh8 a1 ud hd hk a2 hl hn a0;clear h0
 go_enter Tryz.func181,Tryz.ntmps181
 iterate 3 go_step
 refine aaY rfl 39 (.tmp 0) rfl _ _ (by exact a0.out) ?_
 go_upto_region 1 with fail
 go_step
 refine aaN rfl 39 (.tmp 1) rfl w.heap.size 0 39 cl 17 d rfl a1.out (by rw [hl.out];decide) ud.out hd.out aaK ?_
 rw [a2.out]
 go_wp2_with fail
 go_ret
 exact ⟨rfl,hk.out⟩
theorem avY (w:World) {n:Nd} (hn:n.ptr.length=12) (h0:n≠Nd.zero):Calls prog 181 #[ndV n] w λ e w'=>e=U (.bool (decide (Ac4 n)))/\AaA NoF w w':=by
 have hq:=λ w=>alD w hn
 have a9:=aeL w n
 have a0:Blk (w.alloc (ndO n)) w.heap.size (ndO n):=Blk.new w _
 rw [decide_eq_false h0] at hq
 obtain ⟨d,ud,hd⟩:=acJ
 have hg:=ajG
 have ai:=abR hn
 have hl:=aaM hn
 have hk:=(AaA.refl NoF w).alloc (ndO n)
 obtain ⟨i0,hi,aj,ak,hz2⟩:=info_parts akI
 have aa:=aDS h0
 obtain ⟨x0,x1,x2,x3,x4,x15,x16,xd⟩:=abF hn
 have hE:∀ j (hj:j<12),(List.map (Value.int .i64) n.ptr)[j]? = some (I n.ptr[j]):=λ j hj=>by rw [aEZ,aEG];rfl
 have ac:∀ j v,((n.ptr.take 10).map (Value.int .i64))[j]? = some v->(ndC n).toArray[5+j]? = some v:=λ j v hj=>by
  have:((ndC n).toArray.extract 5 (5+10))[j]? = some v:=by rw [xd];simpa using hj
  rw [Array.getElem?_extract] at this
  split at this
  ·exact this
  ·cases this
 have a4:(n.ptr.take 10).map (Value.int .i64)++[I n.ptr[10],I n.ptr[11]]=n.ptr.map (Value.int .i64):=by
  have:n.ptr.take 10++[n.ptr[10],n.ptr[11]]=n.ptr:=by
   conv=>rhs;rw [← List.take_append_drop 10 n.ptr]
   congr 1
   rw [aEX (by omega),aEX (by omega),List.drop_eq_nil_of_le (by omega)]
  conv=>rhs;rw [← this,List.map_append]
  rfl
 unfold ndV at a9 ⊢
 unfold ndO at a0 a9 hk
 have hB:∀ (v lo hi:Int) (b:Bool),btw v lo hi=b->∀ w,Calls prog 228 #[I v,I lo,I hi] w λ e w'=>e=U (.bool b)/\w=w':=λ v lo hi b e w=>e ▸ awO v lo hi w
 obtain ⟨b1,e1⟩:∃ b,btw n.kind 1 3=b:=⟨_,rfl⟩
 obtain ⟨b2,e2⟩:∃ b,btw n.links 0 64=b:=⟨_,rfl⟩
 obtain ⟨b3,e3⟩:∃ b,btw n.size 0 8459264=b:=⟨_,rfl⟩
 obtain ⟨b4,e4⟩:∃ b,btw n.owned 0 2048=b:=⟨_,rfl⟩
 have hA:fitA n=(b1 && (b2 && (b3 && b4))):=by unfold fitA;rw [e1,e2,e3,e4]
 have ad:=hB _ _ _ _ e1
 have ae:=hB _ _ _ _ e2
 have af:=hB _ _ _ _ e3
 have ag:=hB _ _ _ _ e4
 obtain ⟨p,al⟩:∃ p,btw n.parent 1 1024=p:=⟨_,rfl⟩
 have am:=hB n.parent 1 1024 _ al
 have an:=λ j (hj:j<12)=>hB n.ptr[j] 0 2047 _ rfl
 have ah:n.kind=2->fitP n=p:=λ e=>(if_pos e).trans al
 have hP2:n.kind≠2->fitP n=decide (n.parent=0):=λ e=>if_neg e
 generalize a8:ndC n=cl at *
 generalize av:w.alloc (.cells cl.toArray 39 (0,0))=w1 at *
 have y0:=(a0.cell 0).trans x0
 have y1:=(a0.cell 1).trans x1
 have y2:=(a0.cell 2).trans x2
 have y3:=(a0.cell 3).trans x3
 have y4:=(a0.cell 4).trans x4
 have y15:=(a0.cell 15).trans x15
 have y16:=(a0.cell 16).trans x16
 clear x0 x1 x2 x3 x4 x15 x16 e1 e2 e3 e4 al
 generalize fitA n=fA at hA aa
 generalize fitP n=fP at ah hP2 aa
 replace ⟨a0,ud,hd,hk,ai,hl,hn,a9⟩:=yh8 a0 ud hd hk ai hl hn a9;replace ⟨hi,aj,ak,hz2,aa,hE,ac,a4⟩:=yh8 hi aj ak hz2 aa hE ac a4;replace ⟨a8,hA,ad,ae,af,ag,am,an⟩:=yh8 a8 hA ad ae af ag am an;replace ⟨ah,hP2⟩:=yh2 ah hP2;clear h0 xd av hB
 go_enter Tryz.func181,Tryz.ntmps181
 iterate 3 go_step
 refine aaY rfl 39 (.tmp 0) rfl _ _ (by exact a9.out) ?_
 go_upto_region 1 with fail
 go_step
 refine aaN rfl 39 (.tmp 1) rfl w.heap.size 0 39 cl 17 d rfl a0.out (by rw [hl.out];decide) ud.out hd.out aaK ?_
 rw [ai.out]
 go_upto_region 3 with fail
 go_cut [3] from 9 to 61 (λ v wx=>v=.bool fA/\wx=w1)
 case first=>
  cases b1<;>cases b2<;>cases b3<;>cases b4 <;>
  ·go_wp2_with (go_at_call 228;first
    | ((with_reducible refine (ad.out _).mono ?_);rintro e w' ⟨rfl,rfl⟩)
    | ((with_reducible refine (ae.out _).mono ?_);rintro e w' ⟨rfl,rfl⟩)
    | ((with_reducible refine (af.out _).mono ?_);rintro e w' ⟨rfl,rfl⟩)
    | ((with_reducible refine (ag.out _).mono ?_);rintro e w' ⟨rfl,rfl⟩))
   go_meet
   case rel=>exact ⟨by rw [hA.out];rfl,rfl⟩
 case rest=>
 obtain ⟨rfl,rfl⟩:=hcut
 clear hA ad ae af ag hq hg
 go_upto_if 29 with fail
 go_cut [3] from 27 to 61 (λ v wx=>v=.bool (fA && fP)/\wx=wc)
 case first=>
  by_cases hk2:n.kind=2
  ·have hP:=ah.out hk2
   have aw:(n.kind == 2)=true:=by simpa using hk2
   replace ⟨hP,hk2⟩:=yh2 hP hk2
   cases fA <;>
   ·go_wp2_with (go_at_call 228;(with_reducible refine (am.out _).mono ?_);rintro e w' ⟨rfl,rfl⟩)
    go_meet
    case rel=>exact ⟨by rw [hP.out];rfl,rfl⟩
  ·have hP:=hP2.out hk2
   have aw:(n.kind == 2)=false:=by simpa using hk2
   by_cases a5:n.parent=0
   ·rw [decide_eq_true a5] at hP
    have ax:(n.parent == 0)=true:=by simpa using a5
    replace ⟨hP,hk2,a5⟩:=yh3 hP hk2 a5
    cases fA <;>
    ·go_wp2_with fail
     go_meet
     case rel=>exact ⟨by rw [hP.out];rfl,rfl⟩
   ·rw [decide_eq_false a5] at hP
    have ax:(n.parent == 0)=false:=by simpa using a5
    replace hP:=hid hP;clear hk2 a5
    cases fA <;>
    ·go_wp2_with fail
     go_meet
     case rel=>exact ⟨by rw [hP.out];rfl,rfl⟩
 case rest=>
 obtain ⟨rfl,rfl⟩:=hcut
 revert u9 u10 u11 u12 u13 u14 u15 u16 u17 u18 u19 u20 u21 u22 u23 u24 u25 u26 u27 u28 u29 u30 u31 u32 u33 u34 u35 u36 u37 u38 u39 u40 u41 u42 u43 u44 u45 u46 u47 u48 u49 u50 u51 u52 u53 u54 u55 u56 u57 u58 u59 u60 u61
 intro z9 z10 z11 z12 z13 z14 z15 z16 z17 z18 z19 z20 z21 z22 z23 z24 z25 z26 z27 z28 z29 z30 z31 z32 z33 z34 z35 z36 z37 z38 z39 z40 z41 z42 z43 z44 z45 z46 z47 z48 z49 z50 z51 z52 z53 z54 z55 z56 z57 z58 z59 z60 z61
 go_upto_region 7 with fail
 generalize (fA && fP)=fX at *
 generalize ay:w.heap.size=wb at *
 have a6:∀ j v,((n.ptr.take 10).map (Value.int .i64))[j]? = some v->wc.cell? ((⟨wb,5,none⟩:Addr).add j)=some v:=λ j v hj=>by
  rw [Addr.add_lit];exact (a0.out.cell (5+j)).trans (ac.out j v hj)
 have hlen:((n.ptr.take 10).map (Value.int .i64)).length=10:=by rw [aEU,aEM,hn.out];rfl
 have a1:=a4.out
 have a3:=hn.out
 generalize ao:n.ptr[10]=p10 at *
 generalize hp11:n.ptr[11]=p11 at *
 have ap:∀ j v,[Value.int .i64 p10,Value.int .i64 p11][j]? = some v->(wc.alloc (.cells #[Value.int .i64 p10,Value.int .i64 p11] 3 (0,0))).cell? ((⟨wc.heap.size,0,none⟩:Addr).add j)=some v:=λ j v hj=>by
  rw [Addr.add_lit,Nat.zero_add,(Blk.new wc _).cell j];simpa using hj
 generalize (n.ptr.take 10).map (Value.int .i64)=olds at *
 generalize n.ptr.map (Value.int .i64)=all at *
 clear ac y0 y1 y2 y3 y4
 replace ⟨a6,hlen,a1,ap,a3⟩:=yh5 a6 hlen a1 ap a3;clear ao hp11 ay
 go_region_held3 (λ W=>W.cell? ⟨wb,15,none⟩=some (I p10)/\W.cell? ⟨wb,16,none⟩=some (I p11)) (first|exact ⟨y15,y16⟩|exact ⟨aaU y15 _,aaU y16 _⟩|exact ⟨z15,z16⟩)
  (first|((fail_if_success (clear a2));rw [if_pos (by rfl)];refine asG (.tmp 43) (.tmp 48) 48 rfl 3 i0 (I 0) 8 atW hi.out aj.out ak.out hz2.out wb 5 10 10 wc.heap.size 0 2 2 rfl rfl olds [I p10,I p11] hlen.out rfl (λ j v hj=>aaU (a6.out j v hj) _) (λ j v hj=>ap.out j v hj) (by decide) (by decide) (by decide) 12 rfl ?_;intro cap w5 a2 k5;have z15:=k5.cellF (aaU y15 (.cells #[Value.int .i64 p10,Value.int .i64 p11] 3 (0,0))) (λ f=>f);have z16:=k5.cellF (aaU y16 (.cells #[Value.int .i64 p10,Value.int .i64 p11] 3 (0,0))) (λ f=>f);replace ⟨a2,k5⟩:=yh2 a2 k5))
 have a8:∀ j (hj:j<12),w5.cell? ⟨wc.heap.size+1,j,none⟩=some (I (n.ptr[j]'(by rw [a3.out];exact hj))):=λ j hj=>by
  have:=a2.out j (I (n.ptr[j]'(by rw [a3.out];exact hj))) (by rw [a1.out];exact hE.out j hj)
  simpa using this
 have kF:AaA NoF w w5:=(hk.out.alloc (.cells #[Value.int .i64 p10,Value.int .i64 p11] 3 (0,0))).drew.step k5.out
 have aq:=λ k (hk:k<n.ptr.length)=>avZ hk
 have hfin:(fX && fitQ n 12)=decide (Ac4 n):=by rw [← a3.out];exact aa.out
 have ar:fitQ n 0=true:=rfl
 rw [show (wc.alloc (.cells #[Value.int .i64 p10,Value.int .i64 p11] 3 (0,0))).drew.heap.size=wc.heap.size+1 from aEI _ _]
 generalize a7:decide (Ac4 n)=res at *
 generalize wc.heap.size+1=nb at *
 clear y15 y16 z15 z16
 replace ⟨a8,kF,aq,hfin,ar,a7⟩:=yh6 a8 kF aq hfin ar a7
 go_wp2
 go_loop [3,51] (λ v i=>∃ k:Nat,k<=12/\i=I k/\v=.bool (fX && fitQ n k)) (λ _ i=>12 - (intOf i).toNat)
 case atStart=>exact ⟨0,by omega,rfl,by rw [ar.out,Bool.and_true]⟩
 case round=>
  obtain ⟨k,hk1,rfl,rfl⟩:=hrel
  by_cases hlt:k<12
  ·have az:(k:Int)<12:=by omega
   have hc:=a8.out k hlt
   have hs:=aq.out k (by rw [a3.out];exact hlt)
   have ab:=an.out k hlt
   generalize btw (n.ptr[k]'(by rw [a3.out];exact hlt)) 0 2047=b at hs ab
   generalize n.ptr[k]'(by rw [a3.out];exact hlt)=pk at hc ab
   generalize hv:(fX && fitQ n k)=v
   have au:(fX && fitQ n (k+1))=(v && b):=by rw [hs,← Bool.and_assoc,hv]
   clear hs
   replace ⟨ab,au⟩:=yh2 ab au;clear hv
   cases v <;>
   ·go_wp2_with (go_at_call 228;(with_reducible refine (ab.out _).mono ?_);rintro e w' ⟨rfl,rfl⟩)
    go_round
    case rel=>exact ⟨k+1,by omega,by go_num,by rw [au.out];rfl⟩
    case measure=>simp [intOf];omega
  ·have az:¬ (k:Int)<12:=by omega
   obtain rfl:k=12:=by omega
   rw [hfin.out]
   go_wp2
   go_ret
   exact ⟨by rw [a7.out];rfl,kF.out⟩
theorem as0 (w:World) {n:Nd} (hn:n.ptr.length=12):Calls prog 181 #[ndV n] w λ e w'=>e=U (.bool (decide (Ac4 n)))/\AaA NoF w w':=by
 by_cases h:n=Nd.zero
 ·have:decide (Ac4 n)=true:=decide_eq_true (.inl h)
  rw [this]
  exact avX w hn h
 ·exact avY w hn h
theorem aCY {P:Program} (w:World) {t e:TypeId} {n:Nat} {q:IntKind} (ht:P.underlying t=some (.array n e)) (he:P.underlying e=some (.int q)) (hs:(P.info? e).map (·.size)=some 1) (xs:List Int) (hl:xs.length=n) {k:Nat} (hk:k<n) :
  (Instr.index t (.agg (xs.map (Value.int q)).toArray) (I k)).run P w=.ok (.int q (xs[k]'(by omega))) w:=by
 have hsz:(sizeOf e).run P w=.ok 1 w:=by
  cases hq:P.info? e with
  | none=>simp [hq] at hs
  | some i=>simp only [hq,Option.map_some,Option.some.injEq] at hs;simp [sizeOf,typeInfo,hq,hs]
 have p1:=run_part_plain (P:=P) w (afR he) (xs:=(xs.map (Value.int q)).toArray) (off:=((k:Nat):Int).toNat*1) (v:=.int q (xs[k]'(by omega))) (by simp [show k<xs.length by omega])
 have hc:(0:Int)<=(k:Int)/\(k:Int)<((n:Nat):Int):=by omega
 simp only [Instr.index,asIntOf,Sem.run_bind,Sem.run_pure,Result.andThen_ok,run_underlying ht,if_pos hc,hsz,p1]
theorem aBH (w:World):(Instr.makeSlice 40 (I 128) (I 128)).run prog w=.ok (.slice ↑w.heap.size 128 128) (w.alloc (aaE (aaD 128))):=mkB 128 (by omega) w
def WS (w:World) (wb g:Nat) (pre:List UInt8):Prop:=Blk w wb (adM g 128 128 pre.length)/\Blk w g (aaE (pre++aaD (128 - pre.length)))
theorem avO (pre src:List UInt8) (m:Nat) (h:src.length<=m):lay (pre++aaD m) pre.length src=pre++src++aaD (m - src.length):=by
 unfold lay aaD
 rw [List.take_left,aEQ]
 congr 2
 rw [List.drop_append,List.drop_eq_nil_of_le (by omega),List.nil_append,List.drop_replicate]
 congr 1;omega
theorem az2 {w:World} {wb g:Nat} {pre:List UInt8} (hs:WS w wb g pre) (a0:wb≠g) (n v:Nat) (hn:n<=8) (hv:v<9223372036854775808) (hl:pre.length+n<=124) :
  Calls prog 182 #[↑wb,I n,I v] w λ e w'=>e=U (.tuple #[])/\WS w' wb g (pre++aaB v n)/\AaA (λ k=>k=wb∨k=g) w w':=by
 have hb:(pre++aaD (128 - pre.length)).length=128:=by rw [aEH,aaF];omega
 have:=alJ w wb g 128 pre.length (pre++aaD (128 - pre.length)) (by rw [hb];exact hs.1) hs.2 a0 n v hn hv (by omega) (by omega)
 refine this.mono ?_
 rintro e w' ⟨rfl,h1,h2,h3,_⟩
 rw [hb] at h1
 rw [avO _ _ _ (by rw [aaC];omega)] at h2
 have hlen:(pre++aaB v n).length=pre.length+n:=by rw [aEH,aaC]
 refine ⟨rfl,⟨by rw [hlen];exact h1,?_⟩,h3⟩
 rw [hlen,show 128 - (pre.length+n)=128 - pre.length - (aaB v n).length by rw [aaC];omega]
 exact h2
theorem asN {n:Nd} (hk:n.kind≠0) (hl:n.ptr.length=12) {pre:List UInt8} (hp:ab7 n=pre++aaD 52) (a0:pre.length=72):adZ (pre++aaD (128 - pre.length))=encN n:=by
 have e:pre++aaD (128 - pre.length)=ab7 n++aaD 4:=by
  rw [hp,a0,aEQ]
  congr 1
 have hb:=akE n hl
 unfold adZ encN
 rw [e,if_neg hk,aEH,aaF,hb,show 124+4 - 4=124 from rfl,aE0 hb,← hb,avO _ _ _ (by rw [aaC];omega),aaC]
 simp [aaD]
theorem apM {n:Nd} (hk:n.kind=0):encN n=aaD 128:=if_pos hk
structure EncS (w0 w:World) (wb g:Nat) (cl:List Value) (pre:List UInt8):Prop where
 ws:WS w wb g pre
 k:AaA NoF w0 w
 b:Blk w w0.heap.size (.cells cl.toArray 39 (0,0))
 lo:w0.heap.size<g
 lt:g<wb
theorem EncS.cell {w0 w:World} {wb g:Nat} {cl:List Value} {pre:List UInt8} (h:EncS w0 w wb g cl pre) {i:Nat} {v:Value} (hv:cl.toArray[i]? = some v):w.cell? ⟨w0.heap.size,i,none⟩=some v:=(h.b.cell i).trans hv
theorem EncS.num {w0 w:World} {wb g:Nat} {cl:List Value} {pre:List UInt8} (h:EncS w0 w wb g cl pre) (n v:Nat) (hn:n<=8) (hv:v<9223372036854775808) (hl:pre.length+n<=124) :
  Calls prog 182 #[↑wb,I n,I v] w λ e w'=>e=U (.tuple #[])/\EncS w0 w' wb g cl (pre++aaB v n):=by
 have h1:=h.lo
 have h2:=h.lt
 refine (az2 h.ws (by omega) n v hn hv hl).mono ?_
 rintro e w' ⟨rfl,a1,a2⟩
 exact ⟨rfl,a1,h.k.fresh a2 (λ i hi=>by omega),a2.blk h.b (by omega),h1,h2⟩
def Ah2 (w:World) (n:Nd) (e:Ending) (w':World):Prop:=
 AaA NoF w w'/\(Ac4 n/\(∃ g,w.heap.size<=g/\e=U (.tuple #[.slice (some ⟨g,0,none⟩) 128 128,I 0])/\Blk w' g (aaE (encN n)))∨¬ Ac4 n/\e=U (.tuple #[.slice none 0 0,I 20]))
theorem ajM (w:World) {n:Nd} (hn:n.ptr.length=12):Calls prog 106 #[ndV n] w (Ah2 w n):=by
 have ar:=aBH
 have a8:=aeL w n
 have a1:Blk (w.alloc (ndO n)) w.heap.size (ndO n):=Blk.new w _
 have hF:=λ w=>as0 w hn
 obtain ⟨d,ud,hd⟩:=acJ
 have ac:=abR hn
 have hl:=aaM hn
 have hk:=(AaA.refl NoF w).alloc (ndO n)
 obtain ⟨x0,x1,x2,x3,x4,x15,x16,xd⟩:=abF hn
 have a0:Ac4 n->∀ g w',AaA NoF w w'->w.heap.size<=g->Blk w' g (aaE (encN n))->Ah2 w n (U (.tuple #[.slice (some ⟨g,0,none⟩) 128 128,I 0])) w':=λ a g w' b c d=>⟨b,.inl ⟨a,g,c,rfl,d⟩⟩
 have a3:¬ Ac4 n->∀ w',AaA NoF w w'->Ah2 w n (U (.tuple #[.slice none 0 0,I 20])) w':=λ a w' b=>⟨b,.inr ⟨a,rfl⟩⟩
 generalize Ah2 w n=Post at *
 unfold ndV at a8 hF ⊢
 unfold ndO at a1 a8 hk
 generalize a5:ndC n=cl at *
 generalize ag:w.alloc (.cells cl.toArray 39 (0,0))=w1 at *
 by_cases a2:Ac4 n
 ·rw [decide_eq_true a2] at hF
  have a0:=a0 a2
  clear a3
  have y0:=(a1.cell 0).trans x0
  have y1:=(a1.cell 1).trans x1
  have y2:=(a1.cell 2).trans x2
  have y3:=(a1.cell 3).trans x3
  have y4:=(a1.cell 4).trans x4
  have y15:=(a1.cell 15).trans x15
  have y16:=(a1.cell 16).trans x16
  clear x0 x1 x2 x3 x4 x15 x16
  replace ⟨a1,ud,hd,hk,ac,hl,hn,a8⟩:=yh8 a1 ud hd hk ac hl hn a8;replace ⟨hF,a0,a5,ag,xd,a2⟩:=yh6 hF a0 a5 ag xd a2
  go_enter Tryz.func106,Tryz.ntmps106
  go_upto_region 0 with fail
  go_step
  refine aaY rfl 39 (.tmp 0) rfl _ _ (by exact a8.out) ?_
  go_upto_region 1 with fail
  go_step
  refine aaN rfl 39 (.tmp 1) rfl w.heap.size 0 39 cl 17 d rfl a1.out (by rw [hl.out];decide) ud.out hd.out aaK ?_
  rw [ac.out]
  go_wp2_with fail
  refine (hF.out _).mono ?_
  rintro e w2 ⟨rfl,k2⟩
  have hlt:=a1.out.lt
  have au:=k2.size
  have ah:=k2.blk a1.out (λ f=>f)
  replace y0:=k2.cellF y0 (λ f=>f)
  replace y1:=k2.cellF y1 (λ f=>f)
  replace y2:=k2.cellF y2 (λ f=>f)
  replace y3:=k2.cellF y3 (λ f=>f)
  replace y4:=k2.cellF y4 (λ f=>f)
  replace y15:=k2.cellF y15 (λ f=>f)
  replace y16:=k2.cellF y16 (λ f=>f)
  have ai:=hk.out.step k2
  clear k2 ag a8 hk hF
  clear a1
  replace ⟨ah,ai⟩:=yh2 ah ai
  go_upto_region 4 with fail
  have ae:=(Blk.new w2 (aaE (aaD 128))).alloc (.cells #[.slice ↑w2.heap.size 128 128,I 0] 219 (0,0))
  have aa:=Blk.new (w2.alloc (aaE (aaD 128))) (.cells #[.slice ↑w2.heap.size 128 128,I 0] 219 (0,0))
  rw [aEI] at aa
  have aj:=(ah.out.alloc (aaE (aaD 128))).alloc (.cells #[.slice ↑w2.heap.size 128 128,I 0] 219 (0,0))
  have hkB:=(ai.out.alloc (aaE (aaD 128))).alloc (.cells #[.slice ↑w2.heap.size 128 128,I 0] 219 (0,0))
  have lift:∀ {q v},w2.cell? q=some v->((w2.alloc (aaE (aaD 128))).alloc (.cells #[.slice ↑w2.heap.size 128 128,I 0] 219 (0,0))).cell? q=some v:=λ h=>aaU (aaU h _) _
  replace y0:=lift y0
  replace y1:=lift y1
  replace y2:=lift y2
  replace y3:=lift y3
  replace y4:=lift y4
  replace y15:=lift y15
  replace y16:=lift y16
  clear lift ai ah
  generalize (w2.alloc (aaE (aaD 128))).alloc (.cells #[.slice ↑w2.heap.size 128 128,I 0] 219 (0,0))=w3 at *
  have aw:w.heap.size<w2.heap.size:=by omega
  generalize ax:w2.heap.size+1=wb at *
  generalize w2.heap.size=g at *
  clear au hlt ar
  clear w2
  have ay:g<wb:=by omega
  clear ax
  have z0:=aa.cell 0
  have z1:=aa.cell 1
  simp at z0 z1
  by_cases a9:n.kind=0
  ·have hE:encN n=aaD 128:=apM a9
   have hP:=a0.out g w3 hkB (by omega) (by rw [hE];exact ae)
   clear a0
   rw [a9] at y0
   replace ⟨ae,aa,aj,hkB,hP,a9⟩:=yh6 ae aa aj hkB hP a9;clear hE
   go_wp2
   exact hP.out
  ·have a4:NdIn n:=a2.out.elim (λ e=>absurd (by rw [e];rfl) a9) id
   have ao:0<=n.parent/\n.parent<=1024:=by
    by_cases e:n.kind=2
    ·have:=a4.d e;omega
    ·have:=a4.p e;omega
   have hS:EncS w w3 wb g cl []:=⟨⟨aa,by rw [List.nil_append];exact ae⟩,hkB,aj,aw,ay⟩
   obtain ⟨q0,e0⟩:∃ q:Nat,n.kind=q:=⟨n.kind.toNat,by have:=a4.k;omega⟩
   obtain ⟨q1,e1⟩:∃ q:Nat,n.links=q:=⟨n.links.toNat,by have:=a4.l;omega⟩
   obtain ⟨q2,e2⟩:∃ q:Nat,n.parent=q:=⟨n.parent.toNat,by omega⟩
   obtain ⟨q3,e3⟩:∃ q:Nat,n.size=q:=⟨n.size.toNat,by have:=a4.s;omega⟩
   obtain ⟨q4,e4⟩:∃ q:Nat,n.owned=q:=⟨n.owned.toNat,by have:=a4.o;omega⟩
   have b0:q0<9223372036854775808:=by have:=a4.k;omega
   have b1:q1<9223372036854775808:=by have:=a4.l;omega
   have b2:q2<9223372036854775808:=by omega
   have b3:q3<9223372036854775808:=by have:=a4.s;omega
   have b4:q4<9223372036854775808:=by have:=a4.o;omega
   have a6:(cl.drop 5).take 10=(n.ptr.take 10).map (Value.int .i64):=by rw [← a5.out];simp [ndC,ndL,List.map_take]
   have hfin:=asN a9 hn.out (pre:=aaB q0 2++aaB q1 2++aaB q2 4++aaB q3 8++aaB q4 8++(n.ptr.take 10).flatMap (λ p=>aaB p.toNat 4)++aaB n.ptr[10].toNat 4++aaB n.ptr[11].toNat 4) (by
    unfold ab7
    rw [e0,e1,e2,e3,e4]
    have hp:n.ptr=n.ptr.take 10++[n.ptr[10],n.ptr[11]]:=by
     conv=>lhs;rw [← List.take_append_drop 10 n.ptr]
     congr 1
     rw [aEX (by rw [hn.out];decide),aEX (by rw [hn.out];decide),List.drop_eq_nil_of_le (by rw [hn.out];decide)]
    conv=>lhs;rw [hp,List.flatMap_append]
    simp only [Int.toNat_natCast,List.flatMap_cons,List.flatMap_nil,aE3,aEQ]) (by
    simp only [aEH,aaC,amB,aEM,hn.out];rfl)
   have hq:∀ (k:Nat) (hk:k<n.ptr.length),0<=n.ptr[k]/\n.ptr[k]<=2047:=λ k hk=>a4.q _ (List.getElem_mem hk)
   have ap:∀ (k:Nat) (hk:k<10) (w:World),(Instr.index 37 (.agg ((n.ptr.take 10).map (Value.int .i64)).toArray) (I k)).run prog w=.ok (I ((n.ptr[k]'(by rw [hn.out];omega)).toNat:Nat)) w:=λ k hk w=>by
    have aq:(n.ptr.take 10).length=10:=by rw [aEM,hn.out];rfl
    have:=aCY (P:=prog) w (t:=37) (e:=3) (n:=10) (q:=.i64) apA.2.2.2.1 apA.2.2.1 (by kernel_rfl) (n.ptr.take 10) aq (k:=k) hk
    rw [this]
    have h9:=hq k (by rw [hn.out];omega)
    rw [List.getElem_take]
    rw [show ((n.ptr[k]'(by rw [hn.out];omega)).toNat:Int)=n.ptr[k]'(by rw [hn.out];omega) by omega]
   have hsn:∀ (k:Nat) (hk:k<10),(n.ptr.take (k+1)).flatMap (λ p=>aaB p.toNat 4)=(n.ptr.take k).flatMap (λ p=>aaB p.toNat 4)++aaB (n.ptr[k]'(by rw [hn.out];omega)).toNat 4:=λ k hk=>by
    rw [aE6 (by rw [hn.out];omega),List.flatMap_append];simp
   have x0:cl.toArray[0]? = some (I q0):=by rw [← e0,← a5.out];exact (abF hn.out).1
   have x1:cl.toArray[1]? = some (I q1):=by rw [← e1,← a5.out];exact (abF hn.out).2.1
   have x2:cl.toArray[2]? = some (I q2):=by rw [← e2,← a5.out];exact (abF hn.out).2.2.1
   have x3:cl.toArray[3]? = some (I q3):=by rw [← e3,← a5.out];exact (abF hn.out).2.2.2.1
   have x4:cl.toArray[4]? = some (I q4):=by rw [← e4,← a5.out];exact (abF hn.out).2.2.2.2.1
   have x15:cl.toArray[15]? = some (I ((n.ptr[10]'(by rw [hn.out];decide)).toNat:Nat)):=by
    rw [← a5.out,(abF hn.out).2.2.2.2.2.1]
    have:=hq 10 (by rw [hn.out];decide)
    congr 2;omega
   have x16:cl.toArray[16]? = some (I ((n.ptr[11]'(by rw [hn.out];decide)).toNat:Nat)):=by
    rw [← a5.out,(abF hn.out).2.2.2.2.2.2.1]
    have:=hq 11 (by rw [hn.out];decide)
    congr 2;omega
   have bq:∀ (k:Nat) (hk:k<n.ptr.length),n.ptr[k].toNat<9223372036854775808:=λ k hk=>by have:=hq k hk;omega
   have hkz':¬ ((q0:Nat):Int)=0:=by rw [← e0];exact a9
   have b10:=bq 10 (by rw [hn.out];decide)
   have b11:=bq 11 (by rw [hn.out];decide)
   generalize (n.ptr[10]'(by rw [hn.out];decide)).toNat=r10 at hfin x15 b10
   generalize (n.ptr[11]'(by rw [hn.out];decide)).toNat=r11 at hfin x16 b11
   clear y0 y1 y2 y3 y4 y15 y16 z0 z1 e0 e1 e2 e3 e4 a9 hq hkB ae aa aj ao a4
   have y0:=hS.cell x0
   replace ⟨hS,x1,x2,x3,x4,x15,x16,b0⟩:=yh8 hS x1 x2 x3 x4 x15 x16 b0;replace ⟨b1,b2,b3,b4,b10,b11,bq,a6⟩:=yh8 b1 b2 b3 b4 b10 b11 bq a6;replace ⟨hfin,ap,hsn⟩:=yh3 hfin ap hsn;clear x0
   go_wp2_with fail
   refine (hS.out.num 2 q0 (by decide) b0.out (by simp only [aEH,List.length_nil,aaC];decide)).mono ?_
   rintro e w10 ⟨rfl,S1⟩
   have y1:=S1.cell x1.out
   clear hS y0
   clear w3
   replace S1:=hid S1
   go_wp2_with fail
   refine (S1.out.num 2 q1 (by decide) b1.out (by simp only [aEH,List.length_nil,aaC];decide)).mono ?_
   rintro e w11 ⟨rfl,S2⟩
   have y2:=S2.cell x2.out
   clear S1 y1
   clear w10
   replace S2:=hid S2
   go_wp2_with fail
   refine (S2.out.num 4 q2 (by decide) b2.out (by simp only [aEH,List.length_nil,aaC];decide)).mono ?_
   rintro e w12 ⟨rfl,S3⟩
   have y3:=S3.cell x3.out
   clear S2 y2
   clear w11
   replace S3:=hid S3
   go_wp2_with fail
   refine (S3.out.num 8 q3 (by decide) b3.out (by simp only [aEH,List.length_nil,aaC];decide)).mono ?_
   rintro e w13 ⟨rfl,S4⟩
   have y4:=S4.cell x4.out
   clear S3 y3
   clear w12
   replace S4:=hid S4
   go_wp2_with fail
   refine (S4.out.num 8 q4 (by decide) b4.out (by simp only [aEH,List.length_nil,aaC];decide)).mono ?_
   rintro e w14 ⟨rfl,S5⟩
   clear S4 y4
   clear w13
   replace S5:=hid S5
   go_upto_region 11 with fail
   go_step
   refine aaR rfl _ _ (by go_simp;exact ⟨rfl,rfl⟩) ?_
   simp only [wz]
   refine aaN rfl 37 (.tmp 40) rfl w.heap.size 5 39 cl 10 _ rfl S5.out.b (by rw [hl.out];decide) apA.2.2.2.1 rfl (by kernel_rfl) ?_
   rw [a6.out]
   generalize ((n.ptr.take 10).map (Value.int .i64)).toArray=av at *
   rw [show ([]:List UInt8)++aaB q0 2=aaB q0 2 from rfl] at S5
   have ak:(aaB q0 2++aaB q1 2++aaB q2 4++aaB q3 8++aaB q4 8).length=24:=by simp only [aEH,aaC]
   generalize aaB q0 2++aaB q1 2++aaB q2 4++aaB q3 8++aaB q4 8=p24 at *
   have al:∀ k,k<=10->((n.ptr.take k).flatMap λ p=>aaB p.toNat 4).length=4*k:=λ k hk=>by rw [amB,aEM,hn.out];omega
   replace ⟨ak,al⟩:=yh2 ak al
   go_wp2
   go_loopw [42] (λ i wr=>∃ k:Nat,k<=10/\i=I k/\EncS w wr wb g cl (p24++(n.ptr.take k).flatMap λ p=>aaB p.toNat 4)) (λ i _=>10 - (intOf i).toNat)
   case atStart=>exact ⟨0,by omega,rfl,by simpa using S5.out⟩
   case round=>
    obtain ⟨k,hk1,rfl,S6⟩:=hrel
    clear S5
    by_cases hlt:k<10
    ·have az:(k:Int)<10:=by omega
     have hx:=ap.out k hlt
     have hnum:=S6.num 4 (n.ptr[k]'(by rw [hn.out];omega)).toNat (by decide) (bq.out k (by rw [hn.out];omega)) (by rw [aEH,ak.out,al.out k hk1];omega)
     have hs:=hsn.out k hlt
     rw [aEQ,← hs] at hnum
     clear hs
     generalize (n.ptr[k]'(by rw [hn.out];omega)).toNat=pk at hx hnum
     replace ⟨S6,hnum⟩:=yh2 S6 hnum
     go_wp2_with fail
     refine hnum.out.mono ?_
     rintro e w20 ⟨rfl,S7⟩
     clear S6 hnum hx
     replace S7:=hid S7
     go_wp2_with fail
     go_roundw
     case rel=>exact ⟨k+1,by omega,by go_num,S7.out⟩
     case measure=>simp [intOf];omega
    ·have az:¬ (k:Int)<10:=by omega
     obtain rfl:k=10:=by omega
     have y15:=S6.cell x15.out
     have a7:(p24++(n.ptr.take 10).flatMap λ p=>aaB p.toNat 4).length=64:=by rw [aEH,ak.out,al.out 10 (by omega)]
     replace ⟨S6,a7⟩:=yh2 S6 a7
     go_wp2_with fail
     refine (S6.out.num 4 r10 (by decide) b10.out (by rw [a7.out];decide)).mono ?_
     rintro e w21 ⟨rfl,S8⟩
     have y16:=S8.cell x16.out
     clear S6 y15
     replace S8:=hid S8
     go_wp2_with fail
     refine (S8.out.num 4 r11 (by decide) b11.out (by rw [aEH,a7.out,aaC];decide)).mono ?_
     rintro e w22 ⟨rfl,S9⟩
     clear S8 y16
     have hf:=hfin.out
     have af:(p24++((n.ptr.take 10).flatMap λ p=>aaB p.toNat 4)++aaB r10 4++aaB r11 4).length=72:=by rw [aEH,aEH,a7.out,aaC,aaC]
     generalize p24++((n.ptr.take 10).flatMap λ p=>aaB p.toNat 4)++aaB r10 4++aaB r11 4=pre at *
     have ad:(pre++aaD (128 - pre.length)).length=128:=by rw [aEH,aaF,af]
     have am:=S9.lo
     have ab:=S9.lt
     have an:=arK w22 wb g 128 pre.length (pre++aaD (128 - pre.length)) (by rw [ad];exact S9.ws.1) S9.ws.2 (by omega) (by rw [ad];decide) (by rw [ad];decide) (by rw [ad];decide) (by decide)
     rw [hf,ad] at an
     have k9:=S9.k
     replace ⟨an,k9,am,ab⟩:=yh4 an k9 am ab;clear hf ad af
     clear S9
     go_wp2_with fail
     refine an.out.mono ?_
     rintro e w23 ⟨rfl,hB,k10⟩
     have hP:=a0.out g w23 (k9.out.fresh k10 (λ i hi=>by have:=am.out;have:=ab.out;omega)) (by have:=am.out;omega) hB
     clear hB k10
     replace hP:=hid hP
     go_wp2_with fail
     exact hP.out
 ·rw [decide_eq_false a2] at hF
  have a3:=a3 a2
  clear a0 x0 x1 x2 x3 x4 x15 x16
  replace ⟨a1,ud,hd,hk,ac,hl,hn,a8⟩:=yh8 a1 ud hd hk ac hl hn a8;replace ⟨hF,a3⟩:=yh2 hF a3;clear a5 ag xd a2
  go_enter Tryz.func106,Tryz.ntmps106
  go_upto_region 0 with fail
  go_step
  refine aaY rfl 39 (.tmp 0) rfl _ _ (by exact a8.out) ?_
  go_upto_region 1 with fail
  go_step
  refine aaN rfl 39 (.tmp 1) rfl w.heap.size 0 39 cl 17 d rfl a1.out (by rw [hl.out];decide) ud.out hd.out aaK ?_
  rw [ac.out]
  go_wp2_with ((with_reducible refine (hF.out _).mono ?_);rintro e w2 ⟨rfl,k2⟩;replace k2:=hid k2)
  exact a3.out _ (hk.out.step k2.out)
def aq2:Ending:=.panicked [{ v:=.iface 263 (.agg #[]),recovered:=false }]
structure DecS (w0 w:World) (rb vb g qb off cap at_:Nat) (src:List UInt8) (cl:List Value):Prop where
 br:Blk w rb (afP g off 128 cap at_)
 bv:Blk w vb (.cells cl.toArray 39 (0,0))
 bg:Blk w g (aaE src)
 cq:w.cell? ↑qb=some (.slice (some ⟨g,off,none⟩) 128 cap)
 k:AaA (· = vb) w0 w
 n1:rb≠vb
 n2:g≠rb
 n3:g≠vb
 n4:qb≠rb
 n5:qb≠vb
 lo:w0.heap.size<=rb
 lc:128<=cap
 hc:cap<=1048576
 hs:off+128<=src.length
theorem DecS.num {w0 w:World} {rb vb g qb off cap at_:Nat} {src:List UInt8} {cl:List Value} (h:DecS w0 w rb vb g qb off cap at_ src cl) (n most:Nat) (hn:n≠0) (a1:n<=8) (a2:at_+n<=128) (hm:most<1099511627776) :
  Calls prog 214 #[↑rb,I n,I most] w λ e w'=>
   (fld ((src.drop off).take 128) at_ n<=most/\e=U (I (fld ((src.drop off).take 128) at_ n:Nat))∨¬ fld ((src.drop off).take 128) at_ n<=most/\e=aq2)/\DecS w0 w' rb vb g qb off cap (at_+n) src cl:=by
 have hf:(src.drop (off+at_)).take n=((((src.drop off).take 128).drop at_).take n):=by
  rw [List.drop_take,List.take_take,List.drop_drop,Nat.min_eq_left (by omega)]
 refine (aoX w rb g off 128 cap at_ n most src h.br h.bg h.n2 a2 h.lc h.hc hn a1 h.hs hm).mono ?_
 rintro e w' ⟨he,hr,hk⟩
 rw [hf] at he
 refine ⟨?_,hr,hk.blk h.bv (λ e=>h.n1 e.symm),hk.blk h.bg h.n2,hk.cellF h.cq h.n4,h.k.fresh hk (λ i hi=>by have:=h.lo;omega),h.n1,h.n2,h.n3,h.n4,h.n5,h.lo,h.lc,h.hc,h.hs⟩
 unfold fld
 by_cases a0:abH ((((src.drop off).take 128).drop at_).take n)<=most
 ·rw [if_pos a0] at he;exact .inl ⟨a0,he⟩
 ·rw [if_neg a0] at he;exact .inr ⟨a0,he⟩
theorem DecS.cell {w0 w:World} {rb vb g qb off cap at_:Nat} {src:List UInt8} {cl:List Value} (h:DecS w0 w rb vb g qb off cap at_ src cl) {i:Nat} {v:Value} (hv:cl[i]? = some v):w.cell? ⟨vb,i,none⟩=some v:=(h.bv.cell i).trans (by simpa using hv)
theorem DecS.set {w0 w:World} {rb vb g qb off cap at_:Nat} {src:List UInt8} {cl:List Value} (h:DecS w0 w rb vb g qb off cap at_ src cl) (i:Nat) (v:Value):DecS w0 (w.setCell ⟨vb,i,none⟩ v) rb vb g qb off cap at_ src (cl.set i v):=by
 refine ⟨h.br.setCell_ne (p:=⟨vb,i,none⟩) h.n1 v,?_,h.bg.setCell_ne (p:=⟨vb,i,none⟩) h.n3 v,abB h.cq h.n5 v,h.k.setCell (p:=⟨vb,i,none⟩) (.inl rfl) v,h.n1,h.n2,h.n3,h.n4,h.n5,h.lo,h.lc,h.hc,h.hs⟩
 have:=h.bv.setCell i v
 rwa [List.setIfInBounds_toArray] at this
theorem DecS.to {w0 w w':World} {rb vb g qb off cap at_:Nat} {src:List UInt8} {cl cl':List Value} (h:DecS w0 w rb vb g qb off cap at_ src cl) (k:AaA (· = vb) w w') (hv:Blk w' vb (.cells cl'.toArray 39 (0,0))):DecS w0 w' rb vb g qb off cap at_ src cl':=
 ⟨k.blk h.br h.n1,hv,k.blk h.bg h.n3,k.cellF h.cq h.n5,h.k.step k,h.n1,h.n2,h.n3,h.n4,h.n5,h.lo,h.lc,h.hc,h.hs⟩
def Aw3 (w0:World) (vb:Nat) (bs:List UInt8) (e:Ending) (w':World):Prop:=
 AaA (· = vb) w0 w'/\(AcM bs/\e=U (.tuple #[])/\Blk w' vb (ndO (decN bs))∨¬ AcM bs/\e=aq2)
end Go.Vk
