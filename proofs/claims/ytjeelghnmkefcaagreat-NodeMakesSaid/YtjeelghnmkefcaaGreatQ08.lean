/- Part of the proof: Wa3 Wa4 Wa5 Wb1. -/
import Derived.Test.YtjeelghnmkefcaaGreatQ07
set_option linter.unusedVariables false
set_option maxHeartbeats 16000000
set_option maxRecDepth 100000
namespace Go.Vk
open Go.RowKit Go.Proofs
open Tryz (prog)
def agB (D:DM) (L:LM):Nat:=if D.burnt=true∨D.life≠L.life then 3 else 0
def am3 (D:DM) (L:LM):Nat:=if agB D L≠0 then agB D L else if L.started then 0 else 4
section
variable {w:World} {d l:Nat} {D:DM} {F:List Nat} {L:LM}
theorem AaI.drewN (h:AaI w d D F) (n:Nat):AaI (w.drewN n) d D F:=h.keep (λ _ _=>rfl)
theorem at_w (hl:Blk w l (logO d L)) (pos:Nat) (hn:1<=L.n) (a0:L.n<=2048) (hf:L.first<=2048):Calls prog 225 #[↑l,I pos] w λ e w'=>
  e=U (I (L.first+2+pos % L.n:Nat))/\∃ m,w'=w.drewN m:=by
 have c1:=hl.cell 1
 have c2:=hl.cell 2
 simp at c1 c2
 have hlt:=Nat.mod_lt pos (show L.n > 0 by omega)
 have a1:((L.n:Int) == 0)=false:=by simp;omega
 have a2:(0:Int)<=(pos:Int) % (L.n:Int):=by omega
 have a3:(pos:Int) % (L.n:Int)<(L.n:Int):=by omega
 have hcast:(L.first:Int)+2+(pos:Int) % (L.n:Int)=((L.first+2+pos % L.n:Nat):Int):=by simp
 replace hcast:=hid hcast;clear hl hlt
 go_enter Tryz.func225,Tryz.ntmps225
 go_upto_region 1 with fail
 go_quiet (fail)
 go_wp2
 go_ret
 refine ⟨?_,nq,rfl⟩
 rw [← hcast.out]
 rfl
theorem azT (hl:Blk w l (logO d L)) (h1:L.tail<=L.head) (h2:L.head<=4294967295) (a0:L.n<=2048):Calls prog 173 #[↑l] w λ e w'=>
  e=U (I ((L.n:Int) - ((L.head:Int) - (L.tail:Int))))/\∃ m,w'=w.drewN m:=by
 have c2:=hl.cell 2
 have c6:=hl.cell 6
 have c7:=hl.cell 7
 simp at c2 c6 c7
 clear hl
 go_enter Tryz.func173,Tryz.ntmps173
 go_upto_region 1 with fail
 go_quiet (fail)
 go_wp2
 go_ret
 exact ⟨rfl,nq,rfl⟩
theorem awX (hl:Blk w l (logO d L)) (h:AaI w d D F):Calls prog 204 #[↑l] w λ e w'=>
  e=U (I (agB D L:Nat))/\∃ m,w'=w.drewN m:=by
 have c0:=hl.cell 0
 have c3:=hl.cell 3
 simp at c0 c3
 have hB:=λ n=>agI (h.drewN n)
 have hL:=λ n=>avL (h.drewN n)
 have hE:agB D L=if D.burnt=true∨D.life≠L.life then 3 else 0:=rfl
 cases hb:D.burnt with
 | true=>
  rw [hb] at hB hE
  rw [if_pos (.inl rfl)] at hE
  replace ⟨hl,h,hB,hL,hE⟩:=yh5 hl h hB hL hE
  go_enter Tryz.func204,Tryz.ntmps204
  go_upto_region 1 with fail
  go_quiet (first|(go_at_call 76;exact (hB.out _).mono (λ e w' h=>⟨h.1,_,h.2.symm⟩))|(go_at_call 141;exact (hL.out _).mono (λ e w' h=>⟨h.1,_,h.2.symm⟩)))
  go_wp2
  exact bodyPost_ret (v:=I 3) (by simp [results,Tryz.results204,go_sem]) rfl ⟨by rw [hE.out];rfl,nq,rfl⟩
 | false=>
  rw [hb] at hB hE
  by_cases a0:D.life=L.life
  ·rw [if_neg (by rintro (e|e);cases e;exact e a0)] at hE
   rw [a0] at hL
   replace ⟨hl,h,hB,hL,hE,a0⟩:=yh6 hl h hB hL hE a0
   go_enter Tryz.func204,Tryz.ntmps204
   go_upto_region 1 with fail
   go_quiet (first|(go_at_call 76;exact (hB.out _).mono (λ e w' h=>⟨h.1,_,h.2.symm⟩))|(go_at_call 141;exact (hL.out _).mono (λ e w' h=>⟨h.1,_,h.2.symm⟩)))
   go_wp2
   exact bodyPost_ret (v:=I 0) (by simp [results,Tryz.results204,go_sem]) rfl ⟨by rw [hE.out];rfl,nq,rfl⟩
  ·rw [if_pos (.inr a0)] at hE
   have a1:(D.life != L.life)=true:=by simp [a0]
   replace ⟨h,hB,hL,hE⟩:=yh4 h hB hL hE;clear hl a0
   go_enter Tryz.func204,Tryz.ntmps204
   go_upto_region 1 with fail
   go_quiet (first|(go_at_call 76;exact (hB.out _).mono (λ e w' h=>⟨h.1,_,h.2.symm⟩))|(go_at_call 141;exact (hL.out _).mono (λ e w' h=>⟨h.1,_,h.2.symm⟩)))
   go_wp2
   exact bodyPost_ret (v:=I 3) (by simp [results,Tryz.results204,go_sem]) rfl ⟨by rw [hE.out];rfl,nq,rfl⟩
theorem aqM (hl:Blk w l (logO d L)) (h:AaI w d D F):Calls prog 142 #[↑l] w λ e w'=>
  e=U (I (am3 D L:Nat))/\∃ m,w'=w.drewN m:=by
 have hA:=awX hl h
 have c8:=hl.cell 8
 simp at c8
 have hE:am3 D L=if agB D L≠0 then agB D L else if L.started then 0 else 4:=rfl
 have a0:agB D L=3∨agB D L=0:=by unfold agB;split<;>simp
 generalize agB D L=a at *
 rcases a0 with rfl|rfl
 ·rw [if_pos (by decide)] at hE
  replace ⟨hl,h,hA,hE⟩:=yh4 hl h hA hE
  go_enter Tryz.func142,Tryz.ntmps142
  go_wp2_with (go_at_call 204;refine hA.out.mono ?_;rintro e w2 ⟨rfl,m,rfl⟩)
  go_ret
  exact ⟨by rw [hE.out];rfl,m,rfl⟩
 ·rw [if_neg (by decide)] at hE
  cases hs:L.started with
  | true=>
   rw [hs] at hE c8
   rw [if_pos rfl] at hE
   replace ⟨hl,h,hA,hE⟩:=yh4 hl h hA hE
   go_enter Tryz.func142,Tryz.ntmps142
   go_wp2_with (go_at_call 204;refine hA.out.mono ?_;rintro e w2 ⟨rfl,m,rfl⟩)
   go_ret
   exact ⟨by rw [hE.out];rfl,m,rfl⟩
  | false=>
   rw [hs] at hE c8
   rw [if_neg (by decide)] at hE
   replace ⟨hA,hE⟩:=yh2 hA hE;clear hl h
   go_enter Tryz.func142,Tryz.ntmps142
   go_wp2_with (go_at_call 204;refine hA.out.mono ?_;rintro e w2 ⟨rfl,m,rfl⟩)
   go_ret
   exact ⟨by rw [hE.out];rfl,m,rfl⟩
theorem aAM (hl:Blk w l (logO d L)) (h:AaI w d D F) (a4:l∉F) (hb:D.burnt=false) (a5:D.life=L.life) (hs:L.started=false)
  (hf:L.first+1<D.n) (hn:D.n<=2048) (hw:D.writes<1099511627776) (ht:L.top+1<2147483648) :
  Calls prog 157 #[↑l] w
   (AhF w d l F (ab0 D L.first (L.top+1) 0).1 (ab0 D L.first (L.top+1) 0).2 (if (ab0 D L.first (L.top+1) 0).1=0 then { L with epoch:=L.top+1,tail:=0,head:=0,started:=true } else L)):=by
 have hA:=awX hl h
 have hE:agB D L=0:=by unfold agB;rw [if_neg];rintro (e|e);rw [hb] at e;cases e;exact e a5
 rw [hE] at hA
 have c5:=hl.cell 5
 have c8:=hl.cell 8
 simp at c5 c8
 rw [hs] at c8
 have hAn:=λ m=>aoB (w:=w.drewN m) (e:=L.top+1) (t:=0) (hl.drewN m) (h.drewN m) a4 hf hn hw (by omega) ht (by omega)
 have a3:=hl.lt
 unfold AhF at *
 generalize (ab0 D L.first (L.top+1) 0).2=D2 at *
 generalize (ab0 D L.first (L.top+1) 0).1=c at *
 have a6:IntKind.i64.wrap ((L.top:Int)+1)=(L.top:Int)+1:=aaO (by omega) (by omega)
 have hcast:((L.top+1:Nat):Int)=((L.top:Int)+1):=by omega
 rw [hcast] at hAn
 by_cases hc:c=0
 ·subst hc
  rw [if_pos rfl] at hAn ⊢
  replace ⟨hl,h,hA,hE,hAn,a3,hcast⟩:=yh7 hl h hA hE hAn a3 hcast
  go_enter Tryz.func157,Tryz.ntmps157
  go_wp2_with (first
   | (go_at_call 204;refine hA.out.mono ?_;rintro e w2 ⟨rfl,m,rfl⟩)
   | (go_at_call 223;refine (hAn.out _).mono ?_;rintro e w3 ⟨rfl,F3,a2,a1,a0,k3⟩;have p7:=a0.cell 7;have p8:=a0.cell 8;have pf:=a0.frz;simp at p7 p8;replace ⟨a2,a1,a0,k3⟩:=yh4 a2 a1 a0 k3))
  go_ret
  refine ⟨rfl,F3,?_,a1.out,(a0.out.setCell 7 (I 0)).setCell 8 ↑true,(((AaA.refl (λ k=>k∈F∨k=l) w).drewN m).step k3.out |>.setCell (p:=⟨l,7,none⟩) (.inl (.inr rfl)) (I 0)).setCell (p:=⟨l,8,none⟩) (.inl (.inr rfl)) ↑true⟩
  refine a2.out.keep (λ k hk=>?_)
  have a7:k≠l:=λ e=>by
   rcases a1.out k hk with a|a
   ·exact a4 (e ▸ a)
   ·have:=a3.out
    have a':w.heap.size<=k:=a
    omega
  simp only [World.setCell,Array.getElem?_modify]
  rw [if_neg (by omega),if_neg (by omega)]
 ·rw [if_neg hc] at hAn ⊢
  have a8:((c:Int) != 0)=true:=by simp;omega
  replace ⟨hA,hAn⟩:=yh2 hA hAn;clear hl h hE a3 hcast hc
  go_enter Tryz.func157,Tryz.ntmps157
  go_wp2_with (first
   | (go_at_call 204;refine hA.out.mono ?_;rintro e w2 ⟨rfl,m,rfl⟩)
   | (go_at_call 223;refine (hAn.out _).mono ?_;rintro e w3 ⟨rfl,F3,a2,a1,a0,k3⟩;replace ⟨a2,a1,a0,k3⟩:=yh4 a2 a1 a0 k3))
  go_ret
  exact ⟨rfl,F3,a2.out,a1.out,a0.out,((AaA.refl (λ k=>k∈F∨k=l) w).drewN m).step k3.out⟩
end
theorem as9 (v x:Nat) (hx:x<256) (hv:v<281474976710656):bits .or .i64 ((v:Int)*256) (x:Int)=((x+256*v:Nat):Int):=by
 have:=(bits_nat .i64 62 (by decide) (λ n a b=>aaO (by omega) (by omega)) (v*256) x (by omega) (by omega)).2
 rw [azO v x hx] at this
 have hm:((v*256:Nat):Int)=(v:Int)*256:=by omega
 rwa [hm] at this
theorem af0 (w:World) (g off len cap:Nat) (T:TypeId) (src:List UInt8) (hg:Blk w g (aa2 T src)) (n:Nat) (hn:n<=7) (a4:n<=len) (hlen:off+len<=src.length) (hl:len<=1048576) :
  Calls prog 246 #[.slice (some ⟨g,off,none⟩) len cap,I n] w λ e w'=>e=U (I (abH ((src.drop off).take n):Nat))/\w'=w:=by
 have hS:((src.drop off).take n).length=n:=by rw [aEM,aET];omega
 have a0:∀ m (hm:m<n),w.cell? ⟨g,off+m,none⟩=some (.int .u8 (((src.drop off).take n).getD m 0).toNat):=λ m hm=>by
  rw [aEL,List.getElem?_take,if_pos hm,List.getElem?_drop,aEG (by omega),Option.getD_some]
  exact adQ hg (off+m) (by omega)
 generalize (src.drop off).take n=S at hS a0 ⊢
 clear hg
 have hlen':(n:Int)<=(len:Int):=by omega
 replace ⟨hS,a0⟩:=yh2 hS a0
 go_enter Tryz.func246,Tryz.ntmps246
 go_wp2
 go_loop [5,6] (λ v i=>∃ j:Nat,j<=n/\i=I ((j:Int) - 1)/\v=I (abH (S.drop j):Nat)) (λ _ i=>(intOf i+1).toNat)
 case atStart=>exact ⟨n,by omega,by go_num,by rw [List.drop_of_length_le (by rw [hS.out];omega)];rfl⟩
 case round=>
  obtain ⟨j,hj,rfl,rfl⟩:=hrel
  cases j with
  | zero=>
   rw [aER]
   go_wp2
   go_ret
   exact ⟨rfl,rfl⟩
  | succ m=>
   have e1:((m+1:Nat):Int) - 1=(m:Int):=by omega
   rw [e1]
   have hc:=a0.out m (by omega)
   have hv:abH (S.drop m)=(S.getD m 0).toNat+256*abH (S.drop (m+1)):=by
    have hm:m<S.length:=by rw [hS.out];omega
    rw [aEX hm,aEL,aEG hm];rfl
   have hlt:=ag8 (S.drop (m+1))
   have a1:abH (S.drop (m+1))<2 ^ 48:=aEJ hlt (aE5 (by decide) (by rw [aET,hS.out];omega))
   have hx:(S.getD m 0).toNat<256:=(S.getD m 0).toNat_lt
   replace a1:abH (S.drop (m+1))<281474976710656:=a1
   clear hlt e1
   generalize (S.getD m 0).toNat=x at hc hv hx
   generalize a2:abH (S.drop (m+1))=v at hv a1 ⊢
   have a3:bits .or .i64 ((v:Int)*256) (x:Int)=(abH (S.drop m):Nat):=by
    rw [hv];exact as9 v x hx a1
   generalize hv3:abH (S.drop m)=v3 at a3
   have a5:(m:Int)<(len:Int):=by omega
   replace hv3:=hid hv3;clear hv a2
   go_wp2
   exact ⟨⟨m,by omega,rfl,by rw [hv3.out]⟩,by simp [intOf]⟩
def DM.zeroRun:DM->Nat->Nat->Nat × DM
 | D,_,0=>(0,D)
 | D,at_,c+1=>if D.burnt then (3,D) else DM.zeroRun (D.wrote at_ (aaD 512)).spent (at_+1) c
def aeB (D:DM) (f n:Nat):Nat × DM:=
 if D.burnt then (3,D) else acS (acS (D.took.zeroRun f (n+2)) DM.fl) λ D'=>ab0 D' f 1 0
theorem ap9 (D:DM):D.spent.n=D.n:=by unfold DM.spent;split<;>rfl
theorem af3 (D:DM):D.spent.writes=D.writes:=by unfold DM.spent;split<;>rfl
theorem wr_n (D:DM) (k:Nat) (bs:List UInt8):(D.wrote k bs).spent.n=D.n:=ap9 _
theorem alI (D:DM) (k:Nat) (bs:List UInt8):(D.wrote k bs).spent.writes=D.writes+1:=af3 _
theorem AaI.flushed_n {w:World} {d:Nat} {D:DM} {F:List Nat} (h:AaI w d D F):D.flushed.n=D.n:=by
 unfold DM.flushed
 rw [ap9]
 have hl:=aeX (n:=D.n) (f:=D.now) (λ k hk=>h.now_length k hk)
 show (secs D.n D.now).length / 512=D.n
 rw [hl];omega
theorem acB (D:DM):D.flushed.writes=D.writes:=af3 _
theorem afZ (D:DM) (a c:Nat) (h:D.burnt=false):D.zeroRun a (c+1)=DM.zeroRun (D.wrote a (aaD 512)).spent (a+1) c:=by
 show (if D.burnt=true then (3,D) else _)=_
 rw [h,if_neg (by decide)]
theorem ahG (D:DM) (a c:Nat) (h:D.burnt=true):D.zeroRun a (c+1)=(3,D):=by
 show (if D.burnt=true then (3,D) else _)=_
 rw [h,if_pos rfl]
structure DAt (w:World) (d:Nat) (F:List Nat) (D':DM) (F':List Nat) (w':World):Prop where
 rep:AaI w' d D' F'
 sub:∀ k∈F',k∈F∨w.heap.size<=k
 keeps:AaA (· ∈ F) w w'
theorem DAt.refl {w:World} {d:Nat} {D:DM} {F:List Nat} (h:AaI w d D F):DAt w d F D F w:=⟨h,λ _ hk=>.inl hk,.refl _ _⟩
theorem DAt.post {w w':World} {d:Nat} {D:DM} {F F':List Nat} (h:DAt w d F D F' w'):AeN w d F D w':=⟨F',h.rep,h.keeps,h.sub⟩
theorem DAt.trans {w w1 w2:World} {d:Nat} {D1 D2:DM} {F F1 F2:List Nat} (h:DAt w d F D1 F1 w1) (k:DAt w1 d F1 D2 F2 w2):DAt w d F D2 F2 w2:=
 ⟨k.rep,λ i hi=>by
  rcases k.sub i hi with a|a
  ·exact h.sub i a
  ·exact .inr (aE4 h.keeps.size a),
  h.keeps.trans k.keeps (λ i hi f=>by
  rcases h.sub i f with a|a
  ·exact a
  ·omega)⟩
theorem DAt.of {w w':World} {d:Nat} {D':DM} {F:List Nat} (h:AeN w d F D' w'):∃ F',DAt w d F D' F' w':=by
 obtain ⟨F',h1,h2,h3⟩:=h
 exact ⟨F',h1,h3,h2⟩
theorem DAt.out_of {w w':World} {d:Nat} {D':DM} {F F':List Nat} (h:DAt w d F D' F' w') {k:Nat} (hk:k∉F) (hlt:k<w.heap.size):k∉F':=λ hm=>by
 rcases h.sub k hm with a|a
 ·exact hk a
 ·omega
theorem DAt.blk {w w':World} {d:Nat} {D':DM} {F F':List Nat} (h:DAt w d F D' F' w') {b:Nat} {o:Obj} (hb:Blk w b o) (hf:b∉F):Blk w' b o:=h.keeps.blk hb hf
theorem DAt.step {w w1 w2:World} {d:Nat} {D1:DM} {F F1:List Nat} {G:Nat->Prop} (h:DAt w d F D1 F1 w1) (k:AaA G w1 w2) (hG:∀ i∈F1,¬ G i) (a0:∀ i,i<w.heap.size->G i->False):DAt w d F D1 F1 w2:=
 ⟨h.rep.keeps k hG,h.sub,h.keeps.trans k (λ i hi g=>(a0 i hi g).elim)⟩
section
variable {w:World} {d:Nat} {D:DM} {F:List Nat}
theorem ap4 (h:AaI w d D F) (f n:Nat) (h1:18<=n) (h2:n<=256) (h3:f+2+n<=D.n) (h4:D.n<=2048) (hw:D.writes<1099511620000) :
  Calls prog 166 #[↑d,I f,I n] w λ e w'=>
   e=U (I ((aeB D f n).1:Nat))/\AeN w d F (aeB D f n).2 w':=by
 have hM:aeB D f n=if D.burnt then (3,D) else acS (acS (D.took.zeroRun f (n+2)) DM.fl) λ D'=>ab0 D' f 1 0:=rfl
 cases hb:D.burnt with
 | true=>
  rw [hb,if_pos rfl] at hM
  rw [hM]
  have hp:=asV h hb f n
  replace ⟨h,hp,hM⟩:=yh3 h hp hM
  go_enter Tryz.func166,Tryz.ntmps166
  go_wp2_with (go_at_call 216;refine hp.out.mono ?_;rintro e w2 ⟨rfl,rfl⟩)
  go_ret
  exact ⟨rfl,AeN.refl h.out⟩
 | false=>
  rw [hb,if_neg (by decide)] at hM
  rw [hM]
  clear hM
  have hp:=arQ h hb f n h1 h2 h3 h4
  have hT:=at9 h
  have aC:=al2
  have a9:wrap64 (D.life+1)=D.took.life:=rfl
  have ax:D.took.burnt=false:=hb
  have ai:D.took.n=D.n:=rfl
  have aj:D.took.writes=D.writes:=rfl
  rw [a9] at hT
  generalize D.took=D1 at *
  have hlt:=h.lt
  have hX:∀ W c D',c=(acS (acS (D1.zeroRun f (n+2)) DM.fl) λ D'=>ab0 D' f 1 0).1->D'=(acS (acS (D1.zeroRun f (n+2)) DM.fl) λ D'=>ab0 D' f 1 0).2->AeN w d F D' W ->
   (Ending.returned (I (c:Nat))=U (I ((acS (acS (D1.zeroRun f (n+2)) DM.fl) λ D'=>ab0 D' f 1 0).1:Nat))/\AeN w d F (acS (acS (D1.zeroRun f (n+2)) DM.fl) λ D'=>ab0 D' f 1 0).2 W):=by
   rintro W c D' rfl rfl h
   exact ⟨rfl,h⟩
  generalize hx:(acS (acS (D1.zeroRun f (n+2)) DM.fl) λ D'=>ab0 D' f 1 0)=x at *
  replace ⟨hp,hT,ai,aj,hlt,hX,hx⟩:=yh7 hp hT ai aj hlt hX hx;clear h ax a9 hb
  go_enter Tryz.func166,Tryz.ntmps166
  go_upto_region 5 with (first
   | (go_at_call 216;refine hp.out.mono ?_;rintro e w2 ⟨rfl,rfl⟩)
   | (go_at_call 160;refine hT.out.mono ?_;rintro e w2 ⟨rfl,hD2,k2⟩;replace ⟨hD2,k2⟩:=yh2 hD2 k2))
  have hL4:=(Blk.new w2 (logO d ⟨f,n,D1.life,0,0,0,0,false⟩)).alloc (aaE (aaD 512))
  have ak:=Blk.new (w2.alloc (logO d ⟨f,n,D1.life,0,0,0,0,false⟩)) (aaE (aaD 512))
  rw [aEI] at ak
  have av:DAt w d F D1 F ((w2.alloc (logO d ⟨f,n,D1.life,0,0,0,0,false⟩)).alloc (aaE (aaD 512))):=
   ⟨(hD2.out.keeps (((AaA.refl NoF w2).alloc (logO d ⟨f,n,D1.life,0,0,0,0,false⟩)).alloc (aaE (aaD 512))) (λ _ _ f=>f)),λ _ hk=>.inl hk,(k2.out.alloc _).alloc _⟩
  have al:w2.heap.size∉F:=λ hm=>by have:=hlt.out _ hm;have:=k2.out.size;omega
  have am:w2.heap.size+1∉F:=λ hm=>by have:=hlt.out _ hm;have:=k2.out.size;omega
  have af:w.heap.size<=w2.heap.size:=k2.out.size
  have h5:DAt w d F D1 F _/\_/\_:=⟨av,hL4,ak⟩
  clear av hL4 ak hD2 k2
  replace ⟨h5,al,am,af⟩:=yh4 h5 al am af
  go_upto_region 6 with fail
  refine adW (λ W=>DAt w d F D1 F W/\Blk W w2.heap.size (logO d ⟨f,n,D1.life,0,0,0,0,false⟩)/\Blk W (w2.heap.size+1) (aaE (aaD 512))) h5.out ?_
  clear h5
  rintro w5 ⟨hA,hl,hz⟩
  have an:w2.heap.size≠w2.heap.size+1:=by omega
  have ao:w.heap.size<=w2.heap.size+1:=by have:=af.out;omega
  generalize ay:w2.heap.size+1=z at *
  generalize w2.heap.size=l at *
  clear ay
  clear w2
  replace ⟨hA,hl,hz⟩:=yh3 hA hl hz;clear an ao
  go_wp2
  go_loopw [10] (λ i wr=>∃ (k:Nat) (Dk:DM) (Fk:List Nat),k<=n+2/\i=I (f+k:Nat)/\Dk.zeroRun (f+k) (n+2 - k)=D1.zeroRun f (n+2)/\Dk.n=D.n/\Dk.writes=D.writes+k/\DAt w d F Dk Fk wr/\Blk wr l (logO d ⟨f,n,D1.life,0,0,0,0,false⟩)/\Blk wr z (aaE (aaD 512))/\l∉Fk/\z∉Fk) (λ i _=>(f+n+2) - (intOf i).toNat)
  case atStart=>exact ⟨0,D1,F,by omega,rfl,rfl,ai.out,aj.out,hA.out,hl.out,hz.out,al.out,am.out⟩
  case round=>
   obtain ⟨k,Dk,Fk,hk,rfl,a0,ag,aD,a1,a4,a6,a7,ad⟩:=hrel
   clear hA hl hz
   have hcast:((f+k:Nat):Int)=(f:Int)+(k:Int):=by omega
   by_cases aE:k<n+2
   ·obtain ⟨c,hc⟩:∃ c,n+2 - k=c+1:=⟨n+2 - k - 1,by omega⟩
    rw [hc] at a0
    cases a8:Dk.burnt with
    | true=>
     rw [ahG _ _ _ a8] at a0
     have hXX:=hX.out wr 3 Dk (by rw [← hx.out,← a0];rfl) (by rw [← hx.out,← a0];rfl) a1.post
     have hW:=aj1 a1.rep a8 ((f+k:Nat):Int) (.slice ↑z 512 512)
     replace ⟨a0,a1,a4,a6,hW,hXX,hcast⟩:=yh7 a0 a1 a4 a6 hW hXX hcast
     go_wp2_with (go_at_call 162;refine hW.out.mono ?_;rintro e w8 ⟨rfl,rfl⟩)
     go_ret
     exact hXX.out
    | false=>
     rw [afZ _ _ _ a8] at a0
     have hW:=ah5 a1.rep a8 ((f+k:Nat):Int) (by omega) (by rw [ag];omega) (by omega) z 0 512 5 (aaD 512) a6 (by rw [aaF];decide)
     rw [aER,aEO (by rw [aaF];decide),Int.toNat_natCast] at hW
     replace ⟨a0,a1,a4,a6,hW⟩:=yh5 a0 a1 a4 a6 hW;clear hcast
     go_wp2_with (go_at_call 162;refine hW.out.mono ?_;rintro e w8 ⟨rfl,hp8⟩;replace hp8:=hid hp8)
     obtain ⟨F8,a5⟩:=DAt.of hp8.out
     have az:=a4.out.lt
     have aA:=a6.out.lt
     refine ⟨⟨k+1,(Dk.wrote (f+k) (aaD 512)).spent,F8,by omega,by go_num,?_,by rw [wr_n];exact ag,by rw [alI];omega,a1.out.trans a5,a5.blk a4.out a7,a5.blk a6.out ad,a5.out_of a7 az,a5.out_of ad aA⟩,?_⟩
     ·rw [← a0.out,show n+2 - (k+1)=c by omega];rfl
     ·simp [intOf];omega
   ·obtain rfl:k=n+2:=by omega
    rw [Nat.sub_self] at a0
    have a2:D1.zeroRun f (n+2)=(0,Dk):=a0.symm
    have ae:x=acS Dk.fl λ D'=>ab0 D' f 1 0:=by rw [← hx.out,a2];rfl
    have ab:Dk.fl=if Dk.burnt then (3,Dk) else (0,Dk.flushed):=rfl
    clear hcast
    cases a8:Dk.burnt with
    | true=>
     have ac:=akL a1.rep a8
     rw [a8,if_pos rfl] at ab
     have aa:x=(3,Dk):=by rw [ae,ab];rfl
     have hXX:=hX.out wr 3 Dk (by rw [aa]) (by rw [aa]) a1.post
     replace ⟨a0,a1,a4,a6,ac,hXX,ab,a2⟩:=yh8 a0 a1 a4 a6 ac hXX ab a2;replace ⟨ae,aa⟩:=yh2 ae aa
     go_wp2_with (go_at_call 143;refine ac.out.mono ?_;rintro e w8 ⟨rfl,rfl⟩)
     go_ret
     exact hXX.out
    | false=>
     have ac:=ajK a1.rep a8
     rw [a8,if_neg (by decide)] at ab
     have aa:x=ab0 Dk.flushed f 1 0:=by rw [ae,ab];rfl
     have ah:=a1.rep.flushed_n
     have ap:=acB Dk
     replace ⟨a1,a4,ac,aa,ah,ap⟩:=yh6 a1 a4 ac aa ah ap;clear a0 a6 ab a2 ae
     go_upto_region 15 with (go_at_call 143;refine ac.out.mono ?_;rintro e w8 ⟨rfl,hp8⟩;replace hp8:=hid hp8)
     obtain ⟨F8,a5⟩:=DAt.of hp8.out
     have aw:=a5.blk a4.out a7
     have aq:=a5.out_of a7 a4.out.lt
     have hAn:=aoB aw a5.rep aq (by show f+1<_;rw [ah.out,ag];omega) (by rw [ah.out,ag];exact h4) (by rw [ap.out];omega) 1 0 (by decide) (by decide) (by decide)
     unfold AhF at hAn
     dsimp only at hAn
     rw [← aa.out] at hAn
     have a3:=a1.out.trans a5
     replace ⟨hAn,a3⟩:=yh2 hAn a3;clear a5 aw
     go_wp2_with (go_at_call 223;refine hAn.out.mono ?_;rintro e w9 ⟨rfl,F9,ar,au,aB,k9⟩;replace ⟨ar,au,k9⟩:=yh3 ar au k9;clear aB)
     go_ret
     refine hX.out w9 x.1 x.2 rfl rfl ⟨F9,ar.out,a3.out.keeps.trans k9.out (λ i hi g=>?_),λ k hk=>?_⟩
     ·rcases g with g|g
      ·rcases a3.out.sub i g with a|a
       ·exact a
       ·omega
      ·have:=af.out;omega
     ·rcases au.out k hk with a|a
      ·exact a3.out.sub k a
      ·exact .inr (aE4 a3.out.keeps.size a)
end
def recs (n:Nat) (f:Nat->List Value):List Value:=(List.range n).flatMap f
theorem ajD (n:Nat) (f:Nat->List Value):recs (n+1) f=recs n f++f n:=by simp [recs,List.range_succ]
theorem ah8 {n:Nat} {f g:Nat->List Value} (h:∀ k,k<n->f k=g k):recs n f=recs n g:=by
 unfold recs
 rw [List.flatMap_def,List.flatMap_def,List.map_congr_left (λ k hk=>h k (List.mem_range.1 hk))]
theorem afT {n m:Nat} {f:Nat->List Value} (h:∀ k,k<n->(f k).length=m):(recs n f).length=m*n:=by
 induction n with
 | zero=>rfl
 | succ n ih=>rw [ajD,aEH,ih (λ k hk=>h k (by omega)),h n (by omega),Nat.mul_succ]
theorem aj9 {n m:Nat} (f:Nat->List Value):recs (n+1+m) f=recs n f++(f n++recs m (λ k=>f (n+1+k))):=by
 induction m with
 | zero=>rw [Nat.add_zero,ajD];simp [recs]
 | succ m ih=>rw [← Nat.add_assoc,ajD,ih,ajD];simp
theorem avP {n m:Nat} {f:Nat->List Value} (h:∀ k,k<n->(f k).length=m) {k:Nat} (hk:k<n) {vs:List Value} (hv:vs.length=m) :
  layV (recs n f) (m*k) vs=recs n (λ j=>if j=k then vs else f j):=by
 obtain ⟨r,rfl⟩:∃ r,n=k+1+r:=⟨n - (k+1),by omega⟩
 rw [aj9,aj9]
 have hl:(recs k f).length=m*k:=afT (λ j hj=>h j (by omega))
 have e1:recs k (λ j=>if j=k then vs else f j)=recs k f:=ah8 (λ j hj=>if_neg (by omega))
 have e2:recs r (λ j=>if k+1+j=k then vs else f (k+1+j))=recs r (λ j=>f (k+1+j)):=ah8 (λ j hj=>if_neg (by omega))
 rw [e1,e2,if_pos rfl]
 unfold layV
 rw [aE0 hl,hv]
 congr 1
 congr 1
 rw [← List.drop_drop,List.drop_left' hl,List.drop_left' (h k (by omega))]
theorem arO {n m:Nat} {f:Nat->List Value} (h:∀ k,k<n->(f k).length=m) {k:Nat} (hk:k<n) {j:Nat} (hj:j<m):(recs n f)[m*k+j]? = (f k)[j]?:=by
 obtain ⟨r,rfl⟩:∃ r,n=k+1+r:=⟨n - (k+1),by omega⟩
 rw [aj9]
 have hl:(recs k f).length=m*k:=afT (λ j hj=>h j (by omega))
 rw [List.getElem?_append_right (by omega),hl,Nat.add_sub_cancel_left,List.getElem?_append_left (by rw [h k (by omega)];exact hj)]
def ab1 (s:List UInt8):Option (List UInt8):=match ahQ s with
 | none=>none
 | some b=>if b.length<12 then none else some b
structure AwZ where
 epoch:Nat
 position:Nat
 index:Nat
 count:Nat
 data:List UInt8
def AwZ.none:AwZ:=⟨0,0,0,0,[]⟩
def abS (s:List UInt8):AwZ:=match ab1 s with
 | .none=>AwZ.none
 | some b=>⟨abH (b.take 4),abH ((b.drop 4).take 4),abH ((b.drop 8).take 2),abH ((b.drop 10).take 2),b.drop 12⟩
def ao2 (s:List UInt8) (b:Nat):Value:=match ab1 s with
 | .none=>.slice none 0 0
 | some body=>.slice (some ⟨b,if body.length=12 then 7 else 19,none⟩) (body.length - 12) (body.length - 12)
def agQ (s:List UInt8) (b:Nat):List Value:=[I (abS s).epoch,I (abS s).position,I (abS s).index,I (abS s).count,ao2 s b]
def aeD:List Value:=[I 0,I 0,I 0,I 0,.slice none 0 0]
theorem aqQ {s:List UInt8} (h:ab1 s=none) (b:Nat):agQ s b=aeD:=by
 unfold agQ ao2 abS
 rw [h];rfl
theorem ajI (s:List UInt8) (b:Nat):(agQ s b).length=5:=rfl
def ak6 (f:Nat->List UInt8) (bs:Nat->Nat) (k:Nat) (j:Nat):List Value:=if j<k then agQ (f j) (bs j) else aeD
theorem af6 (f:Nat->List UInt8) (bs:Nat->Nat) (k j:Nat):(ak6 f bs k j).length=5:=by unfold ak6;split<;>rfl
def aAV (f:Nat->List UInt8) (bs:Nat->Nat) (n k:Nat):Obj:=.cells (recs n (ak6 f bs k)).toArray 209 (0,0)
theorem asQ (f:Nat->List UInt8) (bs:Nat->Nat) (n k b:Nat) (hk:k<n) :
  recs n (λ j=>if j=k then agQ (f k) b else ak6 f bs k j)=recs n (ak6 f (λ j=>if j=k then b else bs j) (k+1)):=by
 refine ah8 λ j hj=>?_
 unfold ak6
 dsimp only
 by_cases h1:j=k
 ·subst h1;simp
 ·rw [if_neg h1]
  by_cases h2:j<k
  ·rw [if_pos h2,if_pos (by omega),if_neg h1]
  ·rw [if_neg h2,if_neg (by omega)]
def DM.readedN (D:DM):Nat->DM
 | 0=>D
 | k+1=>(DM.readedN D k).readed
theorem alP (D:DM) (k j:Nat):(D.readedN k).now j=D.now j:=by
 induction k with
 | zero=>rfl
 | succ k ih=>exact ih
theorem afQ (D:DM) (k:Nat):(D.readedN k).n=D.n:=by
 induction k with
 | zero=>rfl
 | succ k ih=>exact ih
theorem ag0 (D:DM) (k:Nat):(D.readedN k).burnt=D.burnt:=by
 induction k with
 | zero=>rfl
 | succ k ih=>exact ih
theorem ad0 (D:DM) (k:Nat):(D.readedN k).writes=D.writes:=by
 induction k with
 | zero=>rfl
 | succ k ih=>exact ih
theorem ao0 (D:DM) (k:Nat):(D.readedN k).life=D.life:=by
 induction k with
 | zero=>rfl
 | succ k ih=>exact ih
end Go.Vk
