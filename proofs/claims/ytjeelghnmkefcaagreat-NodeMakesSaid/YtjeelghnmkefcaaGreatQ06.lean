/- Part of the proof: Cw5 Se4 Se5 Se6 Se7. -/
import Derived.Test.YtjeelghnmkefcaaGreatQ05
import Derived.BigQuiet
import Derived.Deep.CutRange
import Derived.Deep.MidRow
set_option linter.unusedVariables false
set_option maxHeartbeats 16000000
set_option maxRecDepth 100000
namespace Go.Vk
open Go.RowKit Go.Proofs
open Tryz (prog)
def afP (g off len cap at_:Nat):Obj:=.cells #[.slice (some ⟨g,off,none⟩) len cap,I at_] 231 (0,0)
theorem auO (w:World) (rb g off len cap at_ n:Nat) (hw:Blk w rb (afP g off len cap at_)) (a3:at_+n<=len) (a4:len<=cap) (hl:cap<=1048576) (hn:n≠0) :
  Calls prog 213 #[↑rb,I n] w λ e w'=>e=U (.slice (some ⟨g,off+at_,none⟩) n n) /\
   Blk w' rb (afP g off len cap (at_+n))/\AaA (· = rb) w w':=by
 have c0:=hw.cell 0
 have c1:=hw.cell 1
 have cf:=hw.frz
 simp at c0 c1
 have a5:IntKind.i64.wrap ((len:Int) - (at_:Int))=(len:Int) - (at_:Int):=aaO (by omega) (by omega)
 have a6:IntKind.i64.wrap ((at_:Int)+(n:Int))=(at_:Int)+(n:Int):=aaO (by omega) (by omega)
 have a7:¬ ((len:Int) - (at_:Int)<(n:Int)):=by omega
 have a8:¬ ((n:Int)<0):=by omega
 replace hw:=hid hw
 go_enter Tryz.func213,Tryz.ntmps213
 go_wp2
 go_quiet (fail)
 have a0:Blk (w.drewN nq) rb (afP g off len cap at_):=hw.out
 have hk1:AaA (· = rb) w (w.drewN nq):=⟨rfl,rfl,rfl,aEK _,λ _ _ _=>rfl⟩
 generalize w.drewN nq=w1 at a0 hk1 ⊢
 have d0:=a0.cell 0
 have d1:=a0.cell 1
 have df:=a0.frz
 simp at d0 d1
 clear c0 c1 cf hw
 replace ⟨a0,hk1⟩:=yh2 a0 hk1
 go_upto_region 4 with fail
 have hw2:=a0.out.setCell 1 (I ((at_:Int)+(n:Int)))
 have hk2:=hk1.out.setCell (p:=⟨rb,1,none⟩) (.inl rfl) (I ((at_:Int)+(n:Int)))
 have e1:Obj.cells (#[Value.slice (some ⟨g,off,none⟩) len cap,I at_].setIfInBounds 1 (I ((at_:Int)+(n:Int)))) 231 (0,0)=afP g off len cap (at_+n):=by
  simp [afP]
 rw [e1] at hw2
 generalize w1.setCell ⟨rb,1,none⟩ (I ((at_:Int)+(n:Int)))=w2 at hw2 hk2 ⊢
 have x0:=hw2.cell 0
 have x1:=hw2.cell 1
 simp at x0 x1
 have a9:IntKind.i64.wrap ((at_:Int)+(n:Int) - (n:Int))=(at_:Int):=by rw [Int.add_sub_cancel];exact aaO (by omega) (by omega)
 have hp6:(0:Int)<=(at_:Int):=by omega
 have aa:(at_:Int)<=(at_:Int)+(n:Int):=by omega
 have hp8:(at_:Int)+(n:Int)<=(cap:Int):=by omega
 have ab:((at_:Int)+(n:Int)).toNat=at_+n:=by omega
 clear d0 d1 df a0 hk1 e1
 replace ⟨hw2,hk2⟩:=yh2 hw2 hk2
 go_quiet (fail)
 have a1:Blk (w2.drewN nq) rb (afP g off len cap (at_+n)):=hw2.out
 have a2:AaA (· = rb) w (w2.drewN nq):=⟨hk2.out.os,hk2.out.tape,hk2.out.output,hk2.out.size,hk2.out.block⟩
 generalize w2.drewN nq=w3 at a1 a2 ⊢
 clear x0 x1 hw2 hk2
 replace ⟨a1,a2⟩:=yh2 a1 a2
 go_wp2
 go_ret
 exact ⟨rfl,a1.out,a2.out⟩
def abH:List UInt8->Nat
 | []=>0
 | x :: xs=>x.toNat+256*abH xs
theorem anB (xs:List UInt8) (x:UInt8):abH (xs++[x])=abH xs+2 ^ (8*xs.length)*x.toNat:=by
 induction xs with
 | nil=>simp [abH]
 | cons y ys ih=>
  simp only [List.cons_append,abH,ih,List.length_cons,Nat.mul_add,Nat.pow_add]
  rw [show (2:Nat) ^ (8*1)=256 from rfl,Nat.mul_comm (2 ^ (8*ys.length)) 256,Nat.mul_assoc]
  omega
theorem ag8 (xs:List UInt8):abH xs<2 ^ (8*xs.length):=by
 induction xs with
 | nil=>simp [abH]
 | cons y ys ih=>
  have:=y.toNat_lt
  simp only [abH,List.length_cons,Nat.mul_add,Nat.pow_add]
  omega
theorem au5 {v:Nat} (k:Nat) (h:v<2 ^ k) (x:Nat):v ||| (x*2 ^ k)=v+2 ^ k*x:=by
 rw [Nat.mul_comm x,Nat.or_comm,← Nat.two_pow_add_eq_or_of_lt h];omega
theorem aoX (w:World) (rb g off len cap at_ n most:Nat) (src:List UInt8) (hw:Blk w rb (afP g off len cap at_)) (hg:Blk w g (aaE src)) (a9:g≠rb) (a3:at_+n<=len) (aa:len<=cap) (hl:cap<=1048576) (hn:n≠0) (af:n<=8)
  (ab:off+len<=src.length) (hm:most<1099511627776) :
  Calls prog 214 #[↑rb,I n,I most] w λ e w'=>
   e=(if abH ((src.drop (off+at_)).take n)<=most then .returned (I (abH ((src.drop (off+at_)).take n):Nat)) else .panicked [{ v:=.iface 263 (.agg #[]),recovered:=false }]) /\
   Blk w' rb (afP g off len cap (at_+n))/\AaA (· = rb) w w':=by
 have hT:=auO w rb g off len cap at_ n hw a3 aa hl hn
 generalize hE:(if abH ((src.drop (off+at_)).take n)<=most then Ending.returned (I (abH ((src.drop (off+at_)).take n):Nat)) else .panicked [{ v:=.iface 263 (.agg #[]),recovered:=false }])=E
 replace ⟨hT,hw,hg,hE⟩:=yh4 hT hw hg hE
 go_enter Tryz.func214,Tryz.ntmps214
 go_wp2_with (go_at_call 213;refine hT.out.mono ?_;rintro e w2 ⟨rfl,hw2,hk2⟩;have a4:=hk2.blk hg.out a9;replace ⟨hw2,hk2,a4⟩:=yh3 hw2 hk2 a4)
 replace hE:=hE.out
 generalize hS:(src.drop (off+at_)).take n=S at hE
 replace hE:=hid hE
 go_loop [7,14] (λ v i=>∃ k:Nat,k<=n/\i=I k/\v=.int .u64 (abH (S.take k):Nat)) (λ _ i=>n - (intOf i).toNat)
 case atStart=>exact ⟨0,by omega,rfl,rfl⟩
 case round=>
  obtain ⟨k,hk,rfl,rfl⟩:=hrel
  have a2:S.length=n:=by rw [← hS,aEM,aET];omega
  by_cases hlt:k<n
  ·have a0:=adU a4.out (off+at_+k) (by omega)
   have ac:src[off+at_+k]'(by omega)=S[k]'(by omega):=by subst hS;simp
   rw [ac] at a0
   have hsn:=anB (S.take k) (S[k]'(by omega))
   rw [← aE6 (by omega)] at hsn
   have a1:=ag8 (S.take k)
   have ad:(S.take k).length=k:=by rw [aEM];omega
   rw [ad] at hsn a1
   generalize hv':abH (S.take (k+1))=v' at hsn
   generalize abH (S.take k)=v at hsn a1
   generalize S[k]'(by omega)=x at a0 hsn
   unfold B at a0
   have a7:=x.toNat_lt
   generalize x.toNat=y at a0 hsn a7
   have a5:2 ^ (8*k)*y<2 ^ 64:=by
    have h1:2 ^ (8*k)*y<2 ^ (8*k)*2 ^ 8:=Nat.mul_lt_mul_of_pos_left a7 (Nat.two_pow_pos _)
    rw [← Nat.pow_add] at h1
    exact aEJ h1 (aE5 (by omega) (by omega))
   have ae:v<2 ^ 64:=aEJ a1 (aE5 (by omega) (by omega))
   have a6:bits .or .u64 (v:Int) (IntKind.u64.wrap ((y:Int)*2 ^ (8*k)))=(v':Nat):=by
    have hc:(y:Int)*2 ^ (8*k)=((y*2 ^ (8*k):Nat):Int):=by simp
    rw [Nat.mul_comm] at a5
    have hw:IntKind.u64.wrap ((y*2 ^ (8*k):Nat):Int)=((y*2 ^ (8*k):Nat):Int):=by
     rw [IntKind.wrap_u64]
     generalize y*2 ^ (8*k)=q at a5
     omega
    rw [hc,hw,u64_or_nat _ _ (by omega) (by omega),au5 _ a1,hsn]
   clear a5 ae
   replace ⟨a1,hS,a2,a6⟩:=yh4 a1 hS a2 a6;clear hsn
   go_wp2
   go_round
   case rel=>exact ⟨k+1,by omega,by go_num,by rw [a6.out,hv']⟩
   case measure=>simp [intOf];omega
  ·obtain rfl:k=n:=by omega
   rw [aEO (by omega)]
   have a1:=ag8 S
   rw [a2] at a1
   replace hE:=hE.out
   generalize abH S=v at a1 hE ⊢
   have ag:v<2 ^ 64:=aEJ a1 (aE5 (by omega) (by omega))
   by_cases a8:v<=most
   ·rw [if_pos a8] at hE
    replace ⟨a1,hS,a2,hE⟩:=yh4 a1 hS a2 hE
    go_wp2
    go_ret
    exact ⟨hE.out,hw2.out,hk2.out⟩
   ·rw [if_neg a8] at hE
    replace hE:=hid hE;clear a1 hS a2
    go_wp2
    exact ⟨rfl,hE.out,hw2.out,hk2.out⟩
theorem atA {v:Nat} (k:Nat) (h:v<2 ^ k) (x:Nat) (h1:v<2 ^ 62) (h2:x*2 ^ k<2 ^ 62):bits .or .i64 (v:Int) ((x*2 ^ k:Nat):Int)=((v+2 ^ k*x:Nat):Int):=by
 rw [(bits_nat .i64 62 (by decide) (λ n a b=>aaO (by omega) (by omega)) v (x*2 ^ k) h1 h2).2,au5 k h x]
theorem aoI {n:Int} (h1 : -9223372036854775808<=n) (h2:n<=9223372036854775807):wrap64 n=n:=by unfold wrap64;omega
theorem Blk.drewN {w:World} {b:Nat} {o:Obj} (h:Blk w b o) (n:Nat):Blk (w.drewN n) b o:=h
theorem AaA.drewN {F:Nat->Prop} {a b:World} (h:AaA F a b) (n:Nat):AaA F a (b.drewN n):=⟨h.os,h.tape,h.output,h.size,h.block⟩
theorem alR {w:World} {b:Nat} {T:TypeId} {cs:List Value} (h:Blk w b (.cells cs.toArray T (0,0))):w.rangeAt b 0 cs:=by
 intro j v hv
 rw [h.cell,Nat.zero_add]
 simpa using hv
theorem ayO:prog.eqGuardType prog.depth 276=false:=by kernel_rfl
theorem und5:prog.underlying 5=some (.int .u8):=by kernel_rfl
def ai0 (s:List UInt8):Nat:=(s.getD 1 0).toNat+256*(s.getD 2 0).toNat
def ahQ (s:List UInt8):Option (List UInt8):=
 if 3<=(s.getD 0 0).toNat∨504<ai0 s∨s≠layB (s.getD 0 0) ((s.drop 7).take (ai0 s)) then none else some ((s.drop 7).take (ai0 s))
def alX (s:List UInt8) (b:Nat):Value:=
 match ahQ s with
 | none=>.tuple #[.slice none 0 0,I 30]
 | some body=>.tuple #[.slice (some ⟨b,if body.length=0 then 0 else 7,none⟩) body.length body.length,I 0]
theorem azQ (w:World) (g c:Nat) (T1:TypeId) (s:List UInt8) (hg:Blk w g (aa2 T1 s)) (hs:s.length=512) :
  Calls prog 245 #[.slice ↑g 512 c] w λ e w'=>
   ∃ b,w.heap.size<=b/\Blk w' b (aa2 276 s)/\AaA NoF w w'/\e=U (alX s b):=by
 have ah:∀ w,(Instr.arrayAt 276 (.slice ↑g 512 c)).run prog w=.ok ↑g w:=λ w=>run_arrayAt w _ _ 512 _ 512 c amX (aEK _)
 replace hg:=hid hg
 go_enter Tryz.func245,Tryz.ntmps245
 go_upto_region 3 with fail
 go_step
 iterate 2 (refine aaR rfl _ _ (by go_simp;exact ⟨rfl,rfl⟩) ?_;simp only [wz])
 refine aaN rfl 276 (.tmp 10) rfl g 0 T1 (s.map B) 512 _ rfl hg.out (by rw [abL,hs];decide) amX rfl aiQ ?_
 rw [aER,aEO (by rw [abL,hs];decide)]
 refine aa0 rfl _ rfl _ _ (azA _) ?_
 simp only [wz]
 refine aaL rfl 276 (.tmp 4) (.tmp 11) rfl w.heap.size 0 276 ((aaD 512).map B) (s.map B) rfl rfl (Blk.new w _) (by rw [abL,abL,hs,aaF];decide) (by rw [abL,hs];exact aiQ) (Ap3 _) ?_
 intro w1 a0 k1 ac
 rw [aa4 (by rw [abL,abL,hs,aaF])] at a0
 have hk1:AaA NoF w w1:=((AaA.refl NoF w).alloc _).fresh k1 (by intro i hi;omega)
 clear ac k1
 replace a0:Blk w1 w.heap.size (aa2 276 s):=a0
 have c0:=adQ a0 0 (by omega)
 have c1:=adQ a0 1 (by omega)
 have c2:=adQ a0 2 (by omega)
 have d0:s.getD 0 0=s[0]'(by omega):=by rw [aEL,aEG (by omega)];rfl
 have d1:s.getD 1 0=s[1]'(by omega):=by rw [aEL,aEG (by omega)];rfl
 have d2:s.getD 2 0=s[2]'(by omega):=by rw [aEL,aEG (by omega)];rfl
 have hO:ahQ s=if 3<=(s[0]'(by omega)).toNat∨504<(s[1]'(by omega)).toNat+256*(s[2]'(by omega)).toNat∨s≠layB (s[0]'(by omega)) ((s.drop 7).take ((s[1]'(by omega)).toNat+256*(s[2]'(by omega)).toNat)) then none else some ((s.drop 7).take ((s[1]'(by omega)).toNat+256*(s[2]'(by omega)).toNat)):=by
  unfold ahQ ai0
  rw [d0,d1,d2]
 have hV:alX s w.heap.size=(match ahQ s with
  | none=>.tuple #[.slice none 0 0,I 30]
  | some body=>.tuple #[.slice (some ⟨w.heap.size,if body.length=0 then 0 else 7,none⟩) body.length body.length,I 0]):=rfl
 rw [hO] at hV
 clear hO d0 d1 d2
 generalize s[0]'(by omega)=x0 at *
 generalize s[1]'(by omega)=x1 at *
 generalize s[2]'(by omega)=x2 at *
 unfold B at c0 c1 c2
 have a9:=x1.toNat_lt
 have ad:=x2.toNat_lt
 have ai:=x0.toNat_lt
 have aa:bits .or .i64 (x1.toNat:Int) ((x2.toNat:Int)*256)=((x1.toNat+256*x2.toNat:Nat):Int):=by
  have:=atA 8 a9 x2.toNat (by omega) (by omega)
  exact_mod_cast this
 have ae:x1.toNat+256*x2.toNat<65536:=by omega
 generalize x1.toNat+256*x2.toNat=n at hV ae aa
 replace ⟨a0,hk1,hV⟩:=yh3 a0 hk1 hV
 go_upto_region 5 with fail
 clear aa c1 c2 a9 ad
 have aj:(0:Int)<=(n:Int):=by omega
 generalize a1:w.heap.size=b at a0 hV c0 ⊢
 by_cases hA:3<=x0.toNat
 ·have hA':(3:Int)<=(x0.toNat:Int):=by omega
  rw [if_pos (.inl hA)] at hV
  replace ⟨a1,hA⟩:=yh2 a1 hA
  go_quiet (fail)
  go_wp2
  go_ret2
  exact ⟨b,by rw [a1.out];exact aEK _,a0.out.drewN _,hk1.out.drewN _,by rw [hV.out];rfl⟩
 ·by_cases hB:504<n
  ·have hA':¬ (3:Int)<=(x0.toNat:Int):=by omega
   have hB':(504:Int)<(n:Int):=by omega
   rw [if_pos (.inr (.inl hB))] at hV
   replace ⟨a1,hA,hB⟩:=yh3 a1 hA hB
   go_quiet (fail)
   go_wp2
   go_ret2
   exact ⟨b,by rw [a1.out];exact aEK _,a0.out.drewN _,hk1.out.drewN _,by rw [hV.out];rfl⟩
  ·have hA':¬ (3:Int)<=(x0.toNat:Int):=by omega
   have hB':¬ (504:Int)<(n:Int):=by omega
   have hL:=λ w3 h=>azH w3 x0 b 7 505 276 s h n (by omega) (by omega)
   have a6:=λ w=>anV (P:=prog) w amX und5 amP s (layB x0 ((s.drop 7).take n)) hs (aeY _ _)
   have ab:((s.drop 7).take n).length=n:=by rw [aEM,aET,hs];omega
   have a7:s≠layB x0 ((s.drop 7).take n)->alX s b=.tuple #[.slice none 0 0,I 30]:=λ h=>by rw [hV.out,if_pos (.inr (.inr h))]
   have a8:s=layB x0 ((s.drop 7).take n)->alX s b=.tuple #[.slice (some ⟨b,if n=0 then 0 else 7,none⟩) n n,I 0]:=λ h=>by
    rw [hV.out,if_neg (by intro e;rcases e with e|e|e;exact hA e;exact hB e;exact e h)]
    simp only [ab]
   clear hV
   generalize layB x0 ((s.drop 7).take n)=row at hL a6 a7 a8
   have a3:decide (s=row)=false->alX s b=.tuple #[.slice none 0 0,I 30]:=λ h=>a7 (of_decide_eq_false h)
   have a4:decide (s=row)=true->alX s b=.tuple #[.slice (some ⟨b,if n=0 then 0 else 7,none⟩) n n,I 0]:=λ h=>a8 (of_decide_eq_true h)
   clear a7 a8
   generalize decide (s=row)=r at a6 a3 a4
   have af:=ayO
   have hu:=amX
   have ag:(prog.info? 276).map (·.size)=some (s.map B).length:=by rw [abL,hs];exact aiQ
   have r0:w1.rangeAt b 0 (s.map B):=alR a0.out
   have r0d:w1.drew.rangeAt b 0 (s.map B):=r0
   have c0d:w1.drew.cell? ⟨b,0,none⟩=some (.int .u8 x0.toNat):=c0
   have b0:Blk w1 b (aa2 276 s):=a0.out
   have b0d:Blk w1.drew b (aa2 276 s):=a0.out
   have ak:(n:Int)<=504:=by omega
   have al:IntKind.i64.wrap (7+(n:Int))=7+(n:Int):=aaO (by omega) (by omega)
   have am:(7:Int)<=7+(n:Int):=by omega
   have an:7+(n:Int)<=512:=by omega
   have ao:(7+(n:Int)).toNat - 7=n:=by omega
   replace ⟨a1,hL,a3,a4⟩:=yh4 a1 hL a3 a4;clear hA hB hs ab
   go_region_held3 (λ W=>W.rangeAt b 0 (s.map B)/\W.cell? ⟨b,0,none⟩=some (.int .u8 x0.toNat)/\Blk W b (aa2 276 s)) (first
    | with_reducible exact ⟨r0d,c0d,b0d⟩|with_reducible exact ⟨r6,c6,b6⟩) (first
    | (go_at_call 249;refine (hL.out _ (by with_reducible exact b0d)).mono ?_;rintro e w6 ⟨rfl,k6⟩;have b6:=k6.blk b0d (λ f=>f);have c6:=k6.cell c0d;have r6:=alR b6))
   have a5:=hk1.out.drew.step k6
   clear r0 r0d c0d b0 b0d c6 r6 a6 k6 hL c0 af hu ag
   replace ⟨b6,a5⟩:=yh2 b6 a5
   cases r
   ·have hv:=a3.out rfl
    clear a3 a4
    replace hv:=hid hv
    go_wp2
    go_ret2
    exact ⟨b,by rw [a1.out];exact aEK _,b6.out,a5.out,by rw [hv.out];rfl⟩
   ·have hv:=a4.out rfl
    clear a3 a4
    by_cases a2:n=0
    ·rw [if_pos a2] at hv
     subst a2
     replace hv:=hid hv
     go_wp2
     go_ret2
     exact ⟨b,by rw [a1.out];exact aEK _,b6.out,a5.out,by rw [hv.out];rfl⟩
    ·rw [if_neg a2] at hv
     replace hv:=hid hv
     go_wp2
     go_ret2
     exact ⟨b,by rw [a1.out];exact aEK _,b6.out,a5.out,by rw [hv.out];rfl⟩
theorem azO (v x:Nat) (hx:x<256):v*256 ||| x=x+256*v:=by
 rw [Nat.or_comm]
 exact au5 8 hx v
def adG (s:List UInt8):Option (Nat × List UInt8):=
 match ahQ s with
 | none=>none
 | some body=>if body.length<8∨abH (body.take 8)=0∨9223372036854775807<abH (body.take 8) then none else some (abH (body.take 8),body.drop 8)
def aoC (s:List UInt8) (b:Nat):Value:=
 match adG s with
 | none=>.agg #[I 0,.slice none 0 0]
 | some (n,d)=>.agg #[I n,.slice (some ⟨b,if d.length=0 then 7 else 15,none⟩) d.length d.length]
theorem ahP {s body:List UInt8} (hs:s.length=512) (h:ahQ s=some body):body.length<=504/\body=(s.drop 7).take body.length:=by
 unfold ahQ at h
 split at h
 ·cases h
 ·rename_i hn
  have e:=aEP h
  have hl:body.length=ai0 s:=by rw [← e,aEM,aET,hs];omega
  exact ⟨by omega,by rw [hl,e]⟩
theorem auF (w:World) (g c:Nat) (T1:TypeId) (s:List UInt8) (hg:Blk w g (aa2 T1 s)) (hs:s.length=512) :
  Calls prog 259 #[.slice ↑g 512 c] w λ e w'=>
   ∃ b,w.heap.size<=b/\Blk w' b (aa2 276 s)/\AaA NoF w w'/\e=U (aoC s b):=by
 have hO:=λ w h=>azQ w g c T1 s h hs
 have hlen:=λ body h=>ahP (body:=body) hs h
 replace ⟨hg,hO,hlen⟩:=yh3 hg hO hlen
 go_enter Tryz.func259,Tryz.ntmps259
 go_wp2_with fail
 have hg1:=hg.out.alloc (.cells #[I 0,.slice none 0 0] 265 (0,0))
 have ab:=Blk.new w (.cells #[I 0,.slice none 0 0] 265 (0,0))
 have hk1:=(AaA.refl NoF w).alloc (.cells #[I 0,.slice none 0 0] 265 (0,0))
 refine (hO.out _ hg1).mono ?_
 rintro e w2 ⟨b,hb,a4,k2,rfl⟩
 have a3:=k2.blk ab (λ f=>f)
 have hk2:=hk1.step k2
 rw [aEI] at hb
 have a5:w.heap.size≠b:=by omega
 have a2:w.heap.size<=b:=by omega
 clear hg1 ab hk1 k2 hb
 have r0:=a3.cell 0
 have r1:=a3.cell 1
 have rf:=a3.frz
 simp at r0 r1
 have e0:∀ v1 v2,Blk ((w2.setCell ↑w.heap.size v1).setCell ⟨w.heap.size,1,none⟩ v2) w.heap.size (.cells #[v1,v2] 265 (0,0)):=λ v1 v2=>by
  have:=(a3.setCell 0 v1).setCell 1 v2
  simpa using this
 have eb:∀ v1 v2,Blk ((w2.setCell ↑w.heap.size v1).setCell ⟨w.heap.size,1,none⟩ v2) b (aa2 276 s):=λ v1 v2=>(a4.setCell_ne (p:=⟨w.heap.size,0,none⟩) (Ne.symm a5) v1).setCell_ne (p:=⟨w.heap.size,1,none⟩) (Ne.symm a5) v2
 have ek:∀ v1 v2,AaA NoF w ((w2.setCell ↑w.heap.size v1).setCell ⟨w.heap.size,1,none⟩ v2):=λ v1 v2=>(hk2.setCell (p:=⟨w.heap.size,0,none⟩) (.inr (aEK _)) v1).setCell (p:=⟨w.heap.size,1,none⟩) (.inr (aEK _)) v2
 have hA:aoC s b=(match adG s with
  | none=>.agg #[I 0,.slice none 0 0]
  | some (n,d)=>.agg #[I n,.slice (some ⟨b,if d.length=0 then 7 else 15,none⟩) d.length d.length]):=rfl
 unfold adG at hA
 unfold alX
 cases a0:ahQ s with
 | none=>
  rw [a0] at hA
  dsimp only at hA ⊢
  replace ⟨a4,a3,hk2,hA,e0,eb,ek,a2⟩:=yh8 a4 a3 hk2 hA e0 eb ek a2;replace ⟨a5,a0⟩:=yh2 a5 a0
  go_wp2
  have f0:=(e0.out (I 0) (.slice none 0 0)).cell 0
  have f1:=(e0.out (I 0) (.slice none 0 0)).cell 1
  simp at f0 f1
  exact bodyPost_ret (v:=.agg #[I 0,.slice none 0 0]) (by simp [results,Tryz.results259,go_sem,f0,f1]) rfl ⟨b,a2.out,eb.out _ _,ek.out _ _,by rw [hA.out]⟩
 | some body=>
  rw [a0] at hA
  obtain ⟨af,a7⟩:=hlen.out body a0
  dsimp only at hA ⊢
  by_cases h8:body.length<8
  ·rw [if_pos (.inl h8)] at hA
   have h8':(body.length:Int)<8:=by omega
   generalize (if body.length=0 then 0 else 7)=off0
   replace ⟨a4,a3,hk2,hA,e0,eb,ek,a2⟩:=yh8 a4 a3 hk2 hA e0 eb ek a2;replace ⟨a5,a0,a7,h8⟩:=yh4 a5 a0 a7 h8
   go_wp2
   have f0:=(e0.out (I 0) (.slice none 0 0)).cell 0
   have f1:=(e0.out (I 0) (.slice none 0 0)).cell 1
   simp at f0 f1
   exact bodyPost_ret (v:=.agg #[I 0,.slice none 0 0]) (by simp [results,Tryz.results259,go_sem,f0,f1]) rfl ⟨b,a2.out,eb.out _ _,ek.out _ _,by rw [hA.out]⟩
  ·have h8':¬ (body.length:Int)<8:=by omega
   rw [if_neg (show ¬ body.length=0 by omega)]
   replace ⟨a4,hA,e0,eb,ek,a2,a7,h8⟩:=yh8 a4 hA e0 eb ek a2 a7 h8;clear a3 hk2 a5 a0
   have hS:(body.take 8).length=8:=by rw [aEM];omega
   have a1:∀ m (hm:m<8),w2.cell? ⟨b,7+m,none⟩=some (.int .u8 (((body.take 8).getD m 0).toNat:Nat)):=λ m hm=>by
    have ag:m<((s.drop 7).take body.length).length:=by rw [← a7.out];have:=h8.out;omega
    have e1:(body.take 8).getD m 0=s[7+m]'(by rw [hs];omega):=by
     rw [aEL,aEG (by omega),Option.getD_some,List.getElem_take]
     rw [List.getElem_of_eq a7.out (by have:=h8.out;omega),List.getElem_take,List.getElem_drop]
    rw [e1]
    exact adQ a4.out (7+m) (by rw [hs];omega)
   generalize body.take 8=S at hS a1 hA
   replace ⟨hS,a1⟩:=yh2 hS a1
   go_wp2
   go_loop [5,6] (λ v i=>∃ j:Nat,j<=8/\i=I ((j:Int) - 1)/\v=.int .u64 (abH (S.drop j):Nat)) (λ _ i=>(intOf i+1).toNat)
   case atStart=>exact ⟨8,by omega,rfl,by rw [List.drop_of_length_le (by rw [hS.out];omega)];rfl⟩
   case round=>
    obtain ⟨j,hj,rfl,rfl⟩:=hrel
    cases j with
    | zero=>
     rw [aER]
     have a9:abH S<18446744073709551616:=by have:=ag8 S;rw [hS.out] at this;exact this
     generalize abH S=q at hA a9 ⊢
     by_cases hz:q=0
     ·subst hz
      rw [if_pos (.inr (.inl rfl))] at hA
      replace hA:=hid hA
      go_wp2
      have f0:=(e0.out (I 0) (.slice none 0 0)).cell 0
      have f1:=(e0.out (I 0) (.slice none 0 0)).cell 1
      simp at f0 f1
      exact bodyPost_ret (v:=.agg #[I 0,.slice none 0 0]) (by simp [results,Tryz.results259,go_sem,f0,f1]) rfl ⟨b,a2.out,eb.out _ _,ek.out _ _,by rw [hA.out]⟩
     ·by_cases hz2:9223372036854775807<q
      ·rw [if_pos (.inr (.inr hz2))] at hA
       have hq1:¬ (q:Int)=0:=by omega
       have hq2:(9223372036854775807:Int)<(q:Int):=by omega
       replace ⟨hA,hz,hz2⟩:=yh3 hA hz hz2
       go_wp2
       have f0:=(e0.out (I 0) (.slice none 0 0)).cell 0
       have f1:=(e0.out (I 0) (.slice none 0 0)).cell 1
       simp at f0 f1
       exact bodyPost_ret (v:=.agg #[I 0,.slice none 0 0]) (by simp [results,Tryz.results259,go_sem,f0,f1]) rfl ⟨b,a2.out,eb.out _ _,ek.out _ _,by rw [hA.out]⟩
      ·rw [if_neg (by rintro (e|e|e);exact h8.out e;exact hz e;exact hz2 e)] at hA
       have hq1:¬ (q:Int)=0:=by omega
       have hq2:¬ (9223372036854775807:Int)<(q:Int):=by omega
       have ac:(body.drop 8).length=body.length - 8:=by rw [aET]
       dsimp only at hA
       rw [ac] at hA
       have hw:=aoI (n:=(q:Int)) (by omega) (by omega)
       have aa:=h8.out
       by_cases a8:body.length=8
       ·rw [a8,if_pos (Nat.sub_self 8),Nat.sub_self] at hA
        rw [a8]
        replace ⟨hA,hz,hz2,a8,aa⟩:=yh5 hA hz hz2 a8 aa
        go_wp2
        have f0:=(e0.out (I q) (.slice (some ⟨b,7,none⟩) 0 0)).cell 0
        have f1:=(e0.out (I q) (.slice (some ⟨b,7,none⟩) 0 0)).cell 1
        simp at f0 f1
        exact bodyPost_ret (v:=.agg #[I q,.slice (some ⟨b,7,none⟩) 0 0]) (by simp [results,Tryz.results259,go_sem,f0,f1]) rfl ⟨b,a2.out,eb.out _ _,ek.out _ _,by rw [hA.out]⟩
       ·rw [if_neg (by omega)] at hA
        generalize hL:body.length - 8=L at hA
        generalize body.length=N at *
        obtain rfl:N=L+8:=by omega
        have ah:L≠0:=by omega
        replace hA:=hid hA;clear hz hz2 a8 aa hL
        go_wp2
        have f0:=(e0.out (I q) (.slice (some ⟨b,15,none⟩) L L)).cell 0
        have f1:=(e0.out (I q) (.slice (some ⟨b,15,none⟩) L L)).cell 1
        simp at f0 f1
        exact bodyPost_ret (v:=.agg #[I q,.slice (some ⟨b,15,none⟩) L L]) (by simp [results,Tryz.results259,go_sem,f0,f1]) rfl ⟨b,a2.out,eb.out _ _,ek.out _ _,by rw [hA.out]⟩
    | succ m=>
     have e1:((m+1:Nat):Int) - 1=(m:Int):=by omega
     rw [e1]
     have hc:=a1.out m (by omega)
     have hv:abH (S.drop m)=(S.getD m 0).toNat+256*abH (S.drop (m+1)):=by
      have hm:m<S.length:=by rw [hS.out];omega
      rw [aEX hm,aEL,aEG hm];rfl
     have hlt:=ag8 (S.drop (m+1))
     have a6:abH (S.drop (m+1))<2 ^ 56:=aEJ hlt (aE5 (by decide) (by rw [aET,hS.out];omega))
     have hx:(S.getD m 0).toNat<256:=(S.getD m 0).toNat_lt
     replace a6:abH (S.drop (m+1))<72057594037927936:=a6
     clear hlt e1
     generalize (S.getD m 0).toNat=x at hc hv hx
     generalize ad:abH (S.drop (m+1))=v at hv a6 ⊢
     have ae:bits .or .u64 ((v:Int)*256) (x:Int)=(abH (S.drop m):Nat):=by
      have:=u64_or_nat (v*256) x (by omega) (by omega)
      have hm:((v*256:Nat):Int)=(v:Int)*256:=by omega
      rw [azO v x (by omega),hm] at this
      rw [hv]
      exact this
     generalize hv3:abH (S.drop m)=v3 at ae
     replace hv3:=hid hv3;clear hv ad
     go_wp2
     exact ⟨⟨m,by omega,rfl,by rw [hv3.out]⟩,by simp [intOf]⟩
theorem ai9 {w:World} {b:Nat} {T:TypeId} {cur:List Value} (h:Blk w b (.cells cur.toArray T (0,0))) (vs:List Value) (hl:vs.length=cur.length) :
  Blk (w.setCells b 0 vs) b (.cells vs.toArray T (0,0))/\AaA (· = b) w (w.setCells b 0 vs):=by
 have:=ac1 b T vs 0 w cur h (by omega)
 rw [aa4 hl] at this
 exact ⟨this.1,this.2.1⟩
def aaJ (s:List UInt8):Nat:=match adG s with|none=>0|some (n,_)=>n
def aaP (s:List UInt8):List UInt8:=match adG s with|none=>[]|some (_,d)=>d
def agJ (s:List UInt8) (b:Nat):Value:=match adG s with
 | none=>.slice none 0 0
 | some (_,d)=>.slice (some ⟨b,if d.length=0 then 7 else 15,none⟩) d.length d.length
theorem atN (s:List UInt8) (b:Nat):aoC s b=.agg #[I (aaJ s),agJ s b]:=by
 unfold aoC aaJ agJ
 cases adG s with
 | none=>rfl
 | some x=>rfl
theorem ac2 (s:List UInt8) (b:Nat):∃ a,agJ s b=.slice a (aaP s).length (aaP s).length:=by
 unfold agJ aaP
 cases adG s with
 | none=>exact ⟨_,rfl⟩
 | some x=>exact ⟨_,rfl⟩
theorem anK (s:List UInt8):aaJ s<=9223372036854775807:=by
 unfold aaJ adG
 cases ahQ s with
 | none=>simp
 | some body=>
  dsimp only
  split
  ·rename_i h
   split at h
   ·simp
   ·simp at h
  ·rename_i n d h
   split at h
   ·simp at h
   ·rename_i hn
    have:=(Prod.mk.inj (aEP h)).1
    omega
def acR (n0 n1:Nat):Int:=if n0=0/\n1=0 then -1 else if n0<n1 then 1 else 0
def AtQ (w:World) (rb b1 b2:Nat) (s1 s2:List UInt8) (vs:List Value) (W:World):Prop:=
 Blk W rb (.cells vs.toArray 266 (0,0))/\AaA NoF w W/\Blk W b1 (aa2 276 s1)/\Blk W b2 (aa2 276 s2)
theorem AtQ.set {w W:World} {rb b1 b2:Nat} {s1 s2:List UInt8} {cur:List Value} (h:AtQ w rb b1 b2 s1 s2 cur W) (vs:List Value) (hl:vs.length=cur.length) (hr:w.heap.size<=rb) (h1:b1≠rb) (h2:b2≠rb):AtQ w rb b1 b2 s1 s2 vs (W.setCells rb 0 vs):=
 ⟨(ai9 h.1 vs hl).1,h.2.1.fresh (ai9 h.1 vs hl).2 (by intro i hi;omega),(ai9 h.1 vs hl).2.blk h.2.2.1 h1,(ai9 h.1 vs hl).2.blk h.2.2.2 h2⟩
def AjX (w:World) (s1 s2:List UInt8) (e:Ending) (w':World):Prop:=
 ∃ b1 b2,w.heap.size<=b1/\w.heap.size<=b2/\Blk w' b1 (aa2 276 s1)/\Blk w' b2 (aa2 276 s2)/\AaA NoF w w' /\
  e=U (.tuple #[.agg #[I (aaJ s1),agJ s1 b1,I (aaJ s2),agJ s2 b2],I (acR (aaJ s1) (aaJ s2)),I 0])
theorem azN (w:World) (g1 c1:Nat) (T1:TypeId) (s1:List UInt8) (h1:Blk w g1 (aa2 T1 s1)) (ax:s1.length=512)
  (g2 c2:Nat) (T2:TypeId) (s2:List UInt8) (h2:Blk w g2 (aa2 T2 s2)) (ay:s2.length=512) :
  Calls prog 244 #[.slice ↑g1 512 c1,.slice ↑g2 512 c2] w (AjX w s1 s2):=by
 have ac:=λ w h=>auF w g1 c1 T1 s1 h ax
 have ad:=λ w h=>auF w g2 c2 T2 s2 h ay
 have al:=ac2 s1
 have hD2:=ac2 s2
 have az:=anK s1
 have aA:=anK s2
 have hP:∀ b1 b2 W,w.heap.size<=b1->w.heap.size<=b2->Blk W b1 (aa2 276 s1)->Blk W b2 (aa2 276 s2)->AaA NoF w W ->
   AjX w s1 s2 (U (.tuple #[.agg #[I (aaJ s1),agJ s1 b1,I (aaJ s2),agJ s2 b2],I (acR (aaJ s1) (aaJ s2)),I 0])) W:=
  λ b1 b2 W x1 x2 x3 x4 x5=>⟨b1,b2,x1,x2,x3,x4,x5,rfl⟩
 generalize AjX w s1 s2=Post at hP ⊢
 simp only [atN] at ac ad
 generalize aaJ s1=n1 at *
 generalize aaJ s2=n2 at *
 replace ⟨h1,h2,ac,ad,al,hD2,hP⟩:=yh7 h1 h2 ac ad al hD2 hP
 go_enter Tryz.func244,Tryz.ntmps244
 go_wp2_with fail
 have an:=h1.out.alloc (.cells #[I 0,.slice none 0 0,I 0,.slice none 0 0] 266 (0,0))
 have ao:=h2.out.alloc (.cells #[I 0,.slice none 0 0,I 0,.slice none 0 0] 266 (0,0))
 have ap:=Blk.new w (.cells #[I 0,.slice none 0 0,I 0,.slice none 0 0] 266 (0,0))
 have aq:=(AaA.refl NoF w).alloc (.cells #[I 0,.slice none 0 0,I 0,.slice none 0 0] 266 (0,0))
 refine (ac.out _ an).mono ?_
 rintro e w2 ⟨b1,ae,ag,k2,rfl⟩
 obtain ⟨a1,ah⟩:=al.out b1
 rw [aEI] at ae
 have ai:=k2.blk ao (λ f=>f)
 have af:=k2.blk ap (λ f=>f)
 have aj:=aq.step k2
 clear an ao ap aq k2
 replace ⟨ai,af,aj,ag,ah,ae⟩:=yh6 ai af aj ag ah ae
 go_wp2_with fail
 refine (ad.out _ ai.out).mono ?_
 rintro e w3 ⟨b2,ar,au,k3,rfl⟩
 obtain ⟨a2,ak⟩:=hD2.out b2
 have a6:=k3.blk af.out (λ f=>f)
 have av:=aj.out.step k3
 have aw:=k3.blk ag.out (λ f=>f)
 have hz2:=af.out.lt
 rw [ah.out,ak]
 replace ar:w.heap.size<b2:=by omega
 clear k3 ai af aj ag hz2
 clear w2
 have r0:=a6.cell 0
 have r1:=a6.cell 1
 have r2:=a6.cell 2
 have r3:=a6.cell 3
 have rf:=a6.frz
 simp at r0 r1 r2 r3
 have a3:b1≠w.heap.size:=by have:=ae.out;omega
 have a4:b2≠w.heap.size:=by omega
 have a7:w.heap.size<=b1:=by have:=ae.out;omega
 have a8:w.heap.size<=b2:=by omega
 have hS:=AtQ.set (cur:=[I 0,.slice none 0 0,I 0,.slice none 0 0]) ⟨a6,av,aw,au⟩ [I n1,.slice a1 (aaP s1).length (aaP s1).length,I n2,.slice a2 (aaP s2).length (aaP s2).length] rfl (aEK _) a3 a4
 simp only [World.setCells,Nat.zero_add,Nat.reduceAdd] at hS
 replace ⟨ak,hS,a7,a8,a3,a4⟩:=yh6 ak hS a7 a8 a3 a4;clear a6 av aw au ar
 go_upto_region 4 with fail
 refine adW (AtQ w w.heap.size b1 b2 s1 s2 [I n1,.slice a1 (aaP s1).length (aaP s1).length,I n2,.slice a2 (aaP s2).length (aaP s2).length]) hS.out ?_
 clear hS r0 r1 r2 r3 rf
 clear w3
 rintro w4 hd
 have hS:=hd.set [I n1,.slice a1 (aaP s1).length (aaP s1).length,I n2,.slice a2 (aaP s2).length (aaP s2).length] rfl (aEK _) a3.out a4.out
 simp only [World.setCells,Nat.zero_add,Nat.reduceAdd] at hS
 obtain ⟨ab,aB,aC,am⟩:=hd
 have r0:=ab.cell 0
 have r1:=ab.cell 1
 have r2:=ab.cell 2
 have r3:=ab.cell 3
 have rf:=ab.frz
 simp at r0 r1 r2 r3
 have hfin:∀ (W:World) (sl:Int),sl=acR n1 n2->AtQ w w.heap.size b1 b2 s1 s2 [I n1,.slice a1 (aaP s1).length (aaP s1).length,I n2,.slice a2 (aaP s2).length (aaP s2).length] W ->
   Post (U (.tuple #[.agg #[I n1,.slice a1 (aaP s1).length (aaP s1).length,I n2,.slice a2 (aaP s2).length (aaP s2).length],I sl,I 0])) W:=by
  rintro W sl rfl ⟨x1,x2,x3,x4⟩
  have:=hP.out b1 b2 W a7.out a8.out x3 x4 x2
  rwa [ah.out,ak.out] at this
 replace ⟨hS,hfin⟩:=yh2 hS hfin;clear ab aB aC am
 have a9:n1=0->n2=0->(-1:Int)=acR n1 n2:=λ a b=>by unfold acR;rw [if_pos ⟨a,b⟩]
 have a5:¬ (n1=0/\n2=0)->n1<n2->(1:Int)=acR n1 n2:=λ a b=>by unfold acR;rw [if_neg a,if_pos b]
 have aa:¬ (n1=0/\n2=0)->¬ n1<n2->(0:Int)=acR n1 n2:=λ a b=>by unfold acR;rw [if_neg a,if_neg b]
 clear ac ad
 replace ⟨a9,a5,aa⟩:=yh3 a9 a5 aa;clear az aA
 by_cases a0:n1=0
 ·have q1:((n1:Int) == 0)=true:=by simp;omega
  by_cases hz2:n2=0
  ·have q2:((n2:Int) == 0)=true:=by simp;omega
   replace ⟨a0,hz2⟩:=yh2 a0 hz2
   go_wp2
   have hx:=hS.out.1
   have f0:=hx.cell 0
   have f1:=hx.cell 1
   have f2:=hx.cell 2
   have f3:=hx.cell 3
   simp at f0 f1 f2 f3
   clear hx
   exact bodyPost_ret (v:=.tuple #[.agg #[I n1,.slice a1 (aaP s1).length (aaP s1).length,I n2,.slice a2 (aaP s2).length (aaP s2).length],I (-1),I 0]) (by simp [results,Tryz.results244,go_sem,f0,f1,f2,f3]) rfl (hfin.out _ _ (a9.out a0.out hz2.out) hS.out)
  ·have q2:¬ (n2:Int)=0:=by omega
   have q3:(n1:Int)<(n2:Int):=by omega
   replace ⟨a0,hz2⟩:=yh2 a0 hz2
   go_wp2
   have hx:=hS.out.1
   have f0:=hx.cell 0
   have f1:=hx.cell 1
   have f2:=hx.cell 2
   have f3:=hx.cell 3
   simp at f0 f1 f2 f3
   clear hx
   exact bodyPost_ret (v:=.tuple #[.agg #[I n1,.slice a1 (aaP s1).length (aaP s1).length,I n2,.slice a2 (aaP s2).length (aaP s2).length],I (1),I 0]) (by simp [results,Tryz.results244,go_sem,f0,f1,f2,f3]) rfl (hfin.out _ _ (a5.out (λ e=>hz2.out e.2) (by have:=a0.out;have:=hz2.out;omega)) hS.out)
 ·have q1:¬ (n1:Int)=0:=by omega
  by_cases hlt:n1<n2
  ·have q3:(n1:Int)<(n2:Int):=by omega
   replace ⟨a0,hlt⟩:=yh2 a0 hlt
   go_wp2
   have hx:=hS.out.1
   have f0:=hx.cell 0
   have f1:=hx.cell 1
   have f2:=hx.cell 2
   have f3:=hx.cell 3
   simp at f0 f1 f2 f3
   clear hx
   exact bodyPost_ret (v:=.tuple #[.agg #[I n1,.slice a1 (aaP s1).length (aaP s1).length,I n2,.slice a2 (aaP s2).length (aaP s2).length],I (1),I 0]) (by simp [results,Tryz.results244,go_sem,f0,f1,f2,f3]) rfl (hfin.out _ _ (a5.out (λ e=>a0.out e.1) hlt.out) hS.out)
  ·have q3:¬ (n1:Int)<(n2:Int):=by omega
   replace ⟨a0,hlt⟩:=yh2 a0 hlt
   go_wp2
   have hx:=hS.out.1
   have f0:=hx.cell 0
   have f1:=hx.cell 1
   have f2:=hx.cell 2
   have f3:=hx.cell 3
   simp at f0 f1 f2 f3
   clear hx
   exact bodyPost_ret (v:=.tuple #[.agg #[I n1,.slice a1 (aaP s1).length (aaP s1).length,I n2,.slice a2 (aaP s2).length (aaP s2).length],I (0),I 0]) (by simp [results,Tryz.results244,go_sem,f0,f1,f2,f3]) rfl (hfin.out _ _ (aa.out (λ e=>a0.out e.1) hlt.out) hS.out)
def al0 (s1 s2:List UInt8) (b1 b2:Nat):Value:=
 if acR (aaJ s1) (aaJ s2)<0 then .tuple #[I 0,I 0,.slice none 0 0,I 30]
 else if acR (aaJ s1) (aaJ s2)=0 then .tuple #[I 0,I (aaJ s1),agJ s1 b1,I 0]
 else .tuple #[I 1,I (aaJ s2),agJ s2 b2,I 0]
def AiD (w:World) (s1 s2:List UInt8) (e:Ending) (w':World):Prop:=
 ∃ b1 b2,w.heap.size<=b1/\w.heap.size<=b2/\Blk w' b1 (aa2 276 s1)/\Blk w' b2 (aa2 276 s2)/\AaA NoF w w'/\e=U (al0 s1 s2 b1 b2)
theorem aoR (n1 n2:Nat):acR n1 n2=-1∨acR n1 n2=0∨acR n1 n2=1:=by
 unfold acR
 split
 ·exact .inl rfl
 ·split
  ·exact .inr (.inr rfl)
  ·exact .inr (.inl rfl)
theorem ax9 (w:World) (g1 c1:Nat) (T1:TypeId) (s1:List UInt8) (h1:Blk w g1 (aa2 T1 s1)) (ac:s1.length=512)
  (g2 c2:Nat) (T2:TypeId) (s2:List UInt8) (h2:Blk w g2 (aa2 T2 s2)) (ad:s2.length=512) :
  Calls prog 218 #[.slice ↑g1 512 c1,.slice ↑g2 512 c2] w (AiD w s1 s2):=by
 have hPr:=azN w g1 c1 T1 s1 h1 ac g2 c2 T2 s2 h2 ad
 have a4:=ac2 s1
 have hD2:=ac2 s2
 have hP:∀ b1 b2 W,w.heap.size<=b1->w.heap.size<=b2->Blk W b1 (aa2 276 s1)->Blk W b2 (aa2 276 s2)->AaA NoF w W ->
   AiD w s1 s2 (U (al0 s1 s2 b1 b2)) W:=
  λ b1 b2 W x1 x2 x3 x4 x5=>⟨b1,b2,x1,x2,x3,x4,x5,rfl⟩
 generalize AiD w s1 s2=Post at hP ⊢
 unfold al0 at hP
 unfold AjX at hPr
 have hc:=aoR (aaJ s1) (aaJ s2)
 generalize acR (aaJ s1) (aaJ s2)=sl at *
 generalize aaJ s1=n1 at *
 generalize aaJ s2=n2 at *
 replace ⟨hPr,a4,hD2,hP,hc⟩:=yh5 hPr a4 hD2 hP hc;clear h1 h2
 go_enter Tryz.func218,Tryz.ntmps218
 go_wp2_with fail
 refine hPr.out.mono ?_
 rintro e w2 ⟨b1,b2,a8,a9,aa,ab,k2,rfl⟩
 obtain ⟨a1,a6⟩:=a4.out b1
 obtain ⟨a2,a7⟩:=hD2.out b2
 rw [a6,a7]
 generalize (aaP s1).length=d1 at a6 a4 ⊢
 generalize (aaP s2).length=d2 at a7 hD2 ⊢
 have hF:=λ W x3 x4 x5=>hP.out b1 b2 W a8 a9 x3 x4 x5
 rw [a6,a7] at hF
 clear hP a6 a7 a4 hD2
 have a0:=aa.alloc (.cells #[I n1,.slice a1 d1 d1,I n2,.slice a2 d2 d2] 266 (0,0))
 have a3:=ab.alloc (.cells #[I n1,.slice a1 d1 d1,I n2,.slice a2 d2 d2] 266 (0,0))
 have ae:=Blk.new w2 (.cells #[I n1,.slice a1 d1 d1,I n2,.slice a2 d2 d2] 266 (0,0))
 have a5:=k2.alloc (.cells #[I n1,.slice a1 d1 d1,I n2,.slice a2 d2 d2] 266 (0,0))
 clear hPr
 replace ⟨hF,a0,a3,a5⟩:=yh4 hF a0 a3 a5;clear a8 a9 aa ab k2
 clear ae
 rcases hc.out with rfl|rfl|rfl
 ·have hX:=hF.out _ a0.out a3.out a5.out
  simp only [Int.reduceNeg,Int.reduceLT,if_true] at hX
  replace hX:=hid hX
  go_wp2
  exact bodyPost_ret (v:=.tuple #[I 0,I 0,.slice none 0 0,I 30]) (by simp [results,Tryz.results218,go_sem]) rfl hX.out
 ·go_upto_region 6 with fail
  go_quiet (fail)
  have hX:=hF.out _ (a0.out.drewN nq) (a3.out.drewN nq) (a5.out.drewN nq)
  rw [if_neg (by decide),if_pos (by decide)] at hX
  replace hX:=hid hX
  go_wp2
  exact bodyPost_ret (v:=.tuple #[I 0,I n1,.slice a1 d1 d1,I 0]) (by simp [results,Tryz.results218,go_sem]) rfl hX.out
 ·go_upto_region 6 with fail
  go_quiet (fail)
  have hX:=hF.out _ (a0.out.drewN nq) (a3.out.drewN nq) (a5.out.drewN nq)
  rw [if_neg (by decide),if_neg (by decide)] at hX
  replace hX:=hid hX
  go_wp2
  exact bodyPost_ret (v:=.tuple #[I 1,I n2,.slice a2 d2 d2,I 0]) (by simp [results,Tryz.results218,go_sem]) rfl hX.out
end Go.Vk
