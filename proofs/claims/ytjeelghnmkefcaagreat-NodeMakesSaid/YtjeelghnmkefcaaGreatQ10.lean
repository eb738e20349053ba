/- Part of the proof: Wb5 Cw6 Cw7 St1. -/
import Derived.Test.YtjeelghnmkefcaaGreatQ06
import Derived.Test.YtjeelghnmkefcaaGreatQ09
import Derived.Laws.BytesArg
import Derived.Defers
import Derived.Recover
set_option linter.unusedVariables false
set_option maxHeartbeats 16000000
set_option maxRecDepth 100000
namespace Go.Vk
open Go.RowKit Go.Proofs
open Tryz (prog)
theorem atM (x:Nat) (h:x<9223372036854775808):bits .and .i64 (x:Int) 4294967295=((x % 4294967296:Nat):Int):=by
 have:=bits_mask .i64 63 (by decide) (λ n a b=>aaO (by omega) (by omega)) 32 (by decide) (x:Int) (by omega) (by omega)
 rw [show ((2:Int) ^ 32 - 1)=4294967295 by decide,show ((2:Int) ^ 32)=4294967296 by decide] at this
 rw [this];omega
structure AsB (s1 s2:List UInt8) (ep tl:Nat):Prop where
 no:max (aaJ s1) (aaJ s2)=ep*4294967296+tl
 ep1:1<=ep
 ep2:ep<=1073741824
 tl2:tl<=1073741824
 bare:(if acR (aaJ s1) (aaJ s2)=0 then aaP s1 else aaP s2)=[]
theorem as2 {s1 s2:List UInt8} {ep tl:Nat} (h:AsB s1 s2 ep tl) (b1 b2:Nat):∃ sl a,al0 s1 s2 b1 b2=.tuple #[I sl,I (ep*4294967296+tl:Nat),.slice a 0 0,I 0]:=by
 have a0:=h.no
 have hb:=h.bare
 have he:=h.ep1
 unfold al0
 obtain ⟨a1,a3⟩:=ac2 s1 b1
 obtain ⟨a2,a4⟩:=ac2 s2 b2
 rw [a3,a4,← a0]
 have a5:acR (aaJ s1) (aaJ s2)=-1/\max (aaJ s1) (aaJ s2)=0∨acR (aaJ s1) (aaJ s2)=0/\max (aaJ s1) (aaJ s2)=aaJ s1∨acR (aaJ s1) (aaJ s2)=1/\max (aaJ s1) (aaJ s2)=aaJ s2:=by
  unfold acR
  split
  ·rename_i h;left;exact ⟨rfl,by rw [h.1,h.2];rfl⟩
  ·split
   ·rename_i h h';right;right;exact ⟨rfl,by omega⟩
   ·rename_i h h';right;left;exact ⟨rfl,by omega⟩
 rcases a5 with ⟨e1,e2⟩|⟨e1,e2⟩|⟨e1,e2⟩
 ·omega
 ·rw [e1,if_pos rfl] at hb
  rw [e1,if_neg (by decide),if_pos rfl,e2,hb]
  exact ⟨_,_,rfl⟩
 ·rw [e1,if_neg (by decide)] at hb
  rw [e1,if_neg (by decide),if_neg (by decide),e2,hb]
  exact ⟨_,_,rfl⟩
def AfW (w:World) (d:Nat) (F:List Nat) (D':DM) (L':LM) (Rec:World->Value->Prop) (e:Ending) (w':World):Prop:=
 ∃ l v F',e=U (.tuple #[.pointer (some ⟨l,0,none⟩),v,I 0])/\w.heap.size<=l/\Blk w' l (logO d L')/\Rec w' v/\DAt w d F D' F' w'/\l∉F'
section
variable {w:World} {d:Nat} {D:DM} {F:List Nat}
theorem asH (h:AaI w d D F) (hb:D.burnt=false) (f n:Nat) (h1:18<=n) (h2:n<=256) (h3:f+2+n<=D.n) (h4:D.n<=2048)
  (ep tl:Nat) (hp:AsB (D.now f) (D.now (f+1)) ep tl) (a5:topK (λ j=>D.now (f+2+j)) ep n≠1073741824)
  (hd:Nat) (Rec:World->Value->Prop) (hst:∀ W W' v,Rec W v->AaA (· ∈ F) W W'->Rec W' v)
  (a0:∀ W l g bs lo,Blk W l (logO d ⟨f,n,D.took.life,ep,topK (λ j=>D.now (f+2+j)) ep n,tl,0,false⟩)->AcO W g (λ j=>D.now (f+2+j)) bs n n lo->l≠g->(∀ j,j<n->ab1 (D.now (f+2+j))≠none->bs j≠l) ->
   Calls prog 221 #[↑l,.slice ↑g n n] W λ e w'=>∃ v,e=.returned v/\Rec w' v/\Blk w' l (logO d ⟨f,n,D.took.life,ep,topK (λ j=>D.now (f+2+j)) ep n,tl,hd,false⟩)/\AaA (· = l) W w') :
  Calls prog 154 #[↑d,I f,I n] w
   (AfW w d F (D.took.readed.readed.readedN n).flushed ⟨f,n,D.took.life,ep,topK (λ j=>D.now (f+2+j)) ep n,tl,hd,false⟩ Rec):=by
 have aJ:=arQ h hb f n h1 h2 h3 h4
 have hT:=at9 h
 have a9:wrap64 (D.life+1)=D.took.life:=rfl
 have an:D.took.burnt=false:=hb
 have ah:D.took.n=D.n:=rfl
 have a2:∀ k,D.took.now k=D.now k:=λ k=>rfl
 rw [a9] at hT
 generalize D.took=D1 at *
 have hlt:=h.lt
 have hsl:∀ k,k<D.n->(D.now k).length=512:=λ k hk=>h.now_length k hk
 have az:=at5 (λ j=>D.now (f+2+j)) ep hp.ep2 n
 have aA:=aBP (λ j=>D.now (f+2+j)) ep n
 have ao:∀ W l v F',w.heap.size<=l->Blk W l (logO d ⟨f,n,D1.life,ep,topK (λ j=>D.now (f+2+j)) ep n,tl,hd,false⟩)->Rec W v->DAt w d F (D1.readed.readed.readedN n).flushed F' W->l∉F' ->
   AfW w d F (D1.readed.readed.readedN n).flushed ⟨f,n,D1.life,ep,topK (λ j=>D.now (f+2+j)) ep n,tl,hd,false⟩ Rec (U (.tuple #[↑l,v,I 0])) W:=
  λ W l v F' x1 x2 x3 x4 x5=>⟨l,v,F',rfl,x1,x2,x3,x4,x5⟩
 generalize AfW w d F (D1.readed.readed.readedN n).flushed ⟨f,n,D1.life,ep,topK (λ j=>D.now (f+2+j)) ep n,tl,hd,false⟩ Rec=Post at ao ⊢
 replace ⟨aJ,hT,an,ah,a2,hlt,hsl,a0⟩:=yh8 aJ hT an ah a2 hlt hsl a0;replace ⟨hst,ao,hp,a5,az,aA⟩:=yh6 hst ao hp a5 az aA;clear h a9 hb
 go_enter Tryz.func154,Tryz.ntmps154
 go_upto_region 5 with (first
  | (go_at_call 216;refine aJ.out.mono ?_;rintro e w2 ⟨rfl,rfl⟩)
  | (go_at_call 160;refine hT.out.mono ?_;rintro e w2 ⟨rfl,hD2,k2⟩;replace ⟨hD2,k2⟩:=yh2 hD2 k2))
 have h5:AaI (w2.alloc (logO d ⟨f,n,D1.life,0,0,0,0,false⟩)) d D1 F/\Blk (w2.alloc (logO d ⟨f,n,D1.life,0,0,0,0,false⟩)) w2.heap.size (logO d ⟨f,n,D1.life,0,0,0,0,false⟩)/\AaA (· ∈ F) w (w2.alloc (logO d ⟨f,n,D1.life,0,0,0,0,false⟩)):=
  ⟨hD2.out.keeps ((AaA.refl NoF w2).alloc _) (λ _ _ f=>f),Blk.new _ _,k2.out.alloc _⟩
 have a1:w2.heap.size∉F:=λ hm=>by have:=hlt.out _ hm;have:=k2.out.size;omega
 have aa:w.heap.size<=w2.heap.size:=k2.out.size
 clear hD2 k2
 refine adW (λ W=>AaI W d D1 F/\Blk W w2.heap.size (logO d ⟨f,n,D1.life,0,0,0,0,false⟩)/\AaA (· ∈ F) w W) h5 ?_
 clear h5
 rintro w3 ⟨aP,ai,aB⟩
 generalize w2.heap.size=l at ai a1 aa ⊢
 clear w2
 have ab:=arV ai aP a1 an.out (by show f+1<_;rw [ah.out];omega) (by rw [ah.out];exact h4)
 unfold Ah1 at ab
 dsimp only at ab
 rw [a2.out,a2.out] at ab
 have ap:=λ W (b1 b2:Nat) x1 x2=>ax9 W b1 512 5 (D.now f) x1 (hsl.out f (by omega)) b2 512 5 (D.now (f+1)) x2 (hsl.out (f+1) (by omega))
 unfold AiD at ap
 have aq:=λ b1 b2=>as2 hp.out b1 b2
 replace ⟨ai,aB,ab,a1,aa,ap,aq⟩:=yh7 ai aB ab a1 aa ap aq;clear aP
 go_upto_region 8 with (go_at_call 217;refine ab.out.mono ?_;rintro e w4 ⟨b1,b2,rfl,aV,aW,aC,aD,aE,k4⟩;replace ⟨aC,aD,aE,k4⟩:=yh4 aC aD aE k4;clear aV aW)
 have aF:=k4.out.blk ai.out a1.out
 have aG:=aB.out.step k4.out
 have aQ:ep*4294967296+tl<9223372036854775808:=by have:=hp.out.ep2;have:=hp.out.tl2;omega
 have hand:=atM _ aQ
 have aR:((ep*4294967296+tl:Nat):Int) / 4294967296=(ep:Int):=by have:=hp.out.tl2;omega
 rw [show (ep*4294967296+tl) % 4294967296=tl by have:=hp.out.tl2;omega] at hand
 have aX:(1:Int)<=(ep:Int):=by have:=hp.out.ep1;omega
 have aY:(ep:Int)<=1073741824:=by have:=hp.out.ep2;omega
 have aZ:(tl:Int)<=1073741824:=by have:=hp.out.tl2;omega
 generalize ep*4294967296+tl=no at hand aR aQ aq
 clear ai aB k4
 replace ⟨aF,aG⟩:=yh2 aF aG
 go_upto_region 11 with (go_at_call 218;refine (ap.out _ _ _ aC.out aD.out).mono ?_;rintro e w5 ⟨c1,c2,-,-,-,-,k5,rfl⟩;obtain ⟨sl,a,aS⟩:=aq.out c1 c2;rw [aS];clear aS;replace k5:=hid k5)
 have ar:=k5.out.blk aF.out (λ f=>f)
 have hk5:=aG.out.trans k5.out (λ _ _ f=>f.elim)
 have aT:=aE.out.keeps k5.out (λ _ _ f=>f)
 have p4:=ar.cell 4
 have p6:=ar.cell 6
 have pf:=ar.frz
 simp at p4 p6
 have a3:Blk ((w5.setCell ⟨l,4,none⟩ (I ep)).setCell ⟨l,6,none⟩ (I tl)) l (logO d ⟨f,n,D1.life,ep,0,tl,0,false⟩):=(ar.setCell 4 _).setCell 6 _
 have hge':w.heap.size<=l:=aa.out
 have a6:AaA (· ∈ F) w ((w5.setCell ⟨l,4,none⟩ (I ep)).setCell ⟨l,6,none⟩ (I tl)):=(hk5.setCell (p:=⟨l,4,none⟩) (.inr hge') _).setCell (p:=⟨l,6,none⟩) (.inr hge') _
 have ac:AaI ((w5.setCell ⟨l,4,none⟩ (I ep)).setCell ⟨l,6,none⟩ (I tl)) d D1.readed.readed F:=aT.keeps (((AaA.refl (· = l) w5).setCell (p:=⟨l,4,none⟩) (.inl rfl) _).setCell (p:=⟨l,6,none⟩) (.inl rfl) _) (λ i hi e=>a1.out (e ▸ hi))
 replace ⟨a3,a6,ac⟩:=yh3 a3 a6 ac;clear ar hk5 aT
 go_upto_region 14 with fail
 refine adW (λ W=>AaI W d D1.readed.readed F/\Blk W l (logO d ⟨f,n,D1.life,ep,0,tl,0,false⟩)/\AaA (· ∈ F) w W) ⟨ac.out,a3.out,a6.out⟩ ?_
 clear aF aG aE aC aD k5 a3 a6 ac p4 p6 pf ap aq ab hand aR
 rintro w6 ⟨ac,a3,a6⟩
 have au:(λ j=>D1.readed.readed.now (f+2+j))=(λ j=>D.now (f+2+j)):=funext λ j=>a2.out _
 have ad:=aC0 a3 ac a1.out an.out (by show 1<=n;omega) (by show n<=256;omega) (by show f+2+n<=_;have:=ah.out;show f+2+n<=D1.n;omega) (by have:=ah.out;show D1.n<=2048;omega)
 unfold AlG at ad
 dsimp only at ad
 rw [au] at ad
 have aK:(D1.readed.readed.readedN n).burnt=false:=(ag0 _ _).trans an.out
 clear au
 have htl':=az.out
 have hle':=aA.out
 have htop':=a5.out
 have a4:=a3.lt
 generalize aL:topK (λ j=>D.now (f+2+j)) ep n=T at a0 ao htl' hle' htop'
 clear az aA a5
 have b0:((T:Int) == 1073741824)=false:=by simp;omega
 replace ⟨ad,aK,a4,a3,a6,aL⟩:=yh6 ad aK a4 a3 a6 aL;clear htl' hle' htop' ac
 go_upto_region 17 with (go_at_call 219;refine ad.out.mono ?_;rintro e w7 ⟨g,bs,rfl,aH,ae,hD7,k7⟩;replace ⟨aH,ae,hD7,k7⟩:=yh4 aH ae hD7 k7)
 have av:=k7.out.blk a3.out a1.out
 have hk7:=a6.out.step k7.out
 have aw:=aD4 g _ bs n _ ep ae.out (λ j hj hp=>((ae.out.data j hj hp).1).lt) h2 hp.out.ep2
 rw [aL.out] at aw
 have aU:g≠l:=by have:=aH.out;have:=a4.out;omega
 have aM:∀ j,j<n->ab1 (D.now (f+2+j))≠none->bs j≠l:=λ j hj hp=>by have:=(ae.out.data j hj hp).2.1;have:=a4.out;omega
 have p4:=av.cell 4
 simp at p4
 clear k7 aH a6 a3 ad
 replace ⟨av,hk7,aw,aM⟩:=yh4 av hk7 aw aM
 go_upto_region 18 with (go_at_call 220;refine aw.out.mono ?_;rintro e w8 ⟨rfl,k8⟩;have aj:=k8.blk av.out (λ f=>f);have p5:=aj.cell 5;have pf:=aj.frz;simp at p5;replace ⟨aj,k8⟩:=yh2 aj k8)
 have ak:Blk (w8.setCell ⟨l,5,none⟩ (I T)) l (logO d ⟨f,n,D1.life,ep,T,tl,0,false⟩):=aj.out.setCell 5 _
 have aI:AaA (· = l) w7 (w8.setCell ⟨l,5,none⟩ (I T)):=(k8.out.mono (G:=(· = l)) (λ _ _ f=>f.elim)).setCell (p:=⟨l,5,none⟩) (.inl rfl) _
 have al:AaI (w8.setCell ⟨l,5,none⟩ (I T)) d (D1.readed.readed.readedN n) F:=hD7.out.keeps aI (λ i hi e=>a1.out (e ▸ hi))
 have ax:AcO (w8.setCell ⟨l,5,none⟩ (I T)) g (λ j=>D.now (f+2+j)) bs n n w6.heap.size:=ae.out.keeps aI aU (λ i hi e=>by have:=a4.out;omega)
 have am:AaA (· ∈ F) w (w8.setCell ⟨l,5,none⟩ (I T)):=hk7.out.fresh aI (λ i hi=>by rw [hi];exact aa.out)
 refine adW (λ W=>Blk W l (logO d ⟨f,n,D1.life,ep,T,tl,0,false⟩)/\AaI W d (D1.readed.readed.readedN n) F/\AcO W g (λ j=>D.now (f+2+j)) bs n n w6.heap.size/\AaA (· ∈ F) w W) ⟨ak,al,ax,am⟩ ?_
 clear ak aI al ax am av hk7 ae hD7 aw aj k8 p4 p5 pf
 rintro w9 ⟨ak,al,ax,am⟩
 have aN:=a0.out w9 l g bs _ ak ax (Ne.symm aU) aM.out
 have p5:=ak.cell 5
 simp at p5
 replace ⟨al,am,aN⟩:=yh3 al am aN;clear ak ax
 go_upto_region 21 with (go_at_call 221;refine aN.out.mono ?_;rintro e w10 ⟨v,rfl,hv,a7,k10⟩;replace ⟨hv,a7,k10⟩:=yh3 hv a7 k10)
 have af:AaI w10 d (D1.readed.readed.readedN n) F:=al.out.keeps k10.out (λ i hi e=>a1.out (e ▸ hi))
 have ay:AaA (· ∈ F) w w10:=am.out.fresh k10.out (λ i hi=>by rw [hi];exact aa.out)
 have ag:DAt w d F (D1.readed.readed.readedN n) F w10:=⟨af,λ _ hk=>.inl hk,ay⟩
 have aO:=ajK af aK.out
 replace ⟨ag,aO⟩:=yh2 ag aO;clear af ay
 go_wp2_with (go_at_call 143;refine aO.out.mono ?_;rintro e w11 ⟨rfl,hp11⟩;replace hp11:=hid hp11)
 obtain ⟨F11,a8⟩:=DAt.of hp11.out
 have hX:=ao.out w11 l v F11 aa.out (a8.blk a7.out a1.out) (hst.out _ _ _ hv.out a8.keeps) (ag.out.trans a8) (a8.out_of a1.out a7.out.lt)
 go_ret3
 exact hX
end
theorem ap7 (bs:List UInt8):strOfNums (bs.map λ x=>((x.toNat:Nat):Int))=⟨bs.toArray⟩:=by
 simp [strOfNums,Function.comp_def]
theorem aoV (w:World) (g off n c:Nat) (src:List UInt8) (hg:Blk w g (aaE src)) (h:off+n<=src.length) :
  (convert 40 9 (.slice (some ⟨g,off,none⟩) n c)).run prog w=.ok (.string ⟨((src.drop off).take n).toArray⟩) w:=by
 have hl:((src.drop off).take n).length=n:=by simp;omega
 have:=run_convert_bytes_arg (P:=prog) w 40 5 afL (by kernel_rfl) g off n c (((src.drop off).take n).map λ x=>((x.toNat:Nat):Int)) (by simp;omega) (λ i hi=>by
  rw [adU hg (off+i) (by omega)]
  simp [B,hi,aEL,List.getElem?_drop,aEG (show off+i<src.length by omega)]) 9 (by kernel_rfl)
 rwa [ap7] at this
theorem an6 (w:World) (g1 o1 n1 c1 g2 o2 n2 c2:Nat) (xs ys:List UInt8) (h1:Blk w g1 (aaE xs)) (h2:Blk w g2 (aaE ys)) (l1:o1+n1<=xs.length) (l2:o2+n2<=ys.length) :
  Calls prog 169 #[.slice (some ⟨g1,o1,none⟩) n1 c1,.slice (some ⟨g2,o2,none⟩) n2 c2] w λ e w'=>
   e=U (.bool (decide ((xs.drop o1).take n1=(ys.drop o2).take n2)))/\w'=w:=by
 have e1:=aoV w g1 o1 n1 c1 xs h1 l1
 have e2:=aoV w g2 o2 n2 c2 ys h2 l2
 generalize (xs.drop o1).take n1=a at e1 ⊢
 generalize (ys.drop o2).take n2=b at e2 ⊢
 clear h1 h2
 go_enter Tryz.func169,Tryz.ntmps169
 go_wp2
 go_ret
 refine ⟨?_,rfl⟩
 have:(a == b)=decide (a=b):=by rw [Bool.eq_iff_iff];simp
 rw [← this]
 rfl
theorem ar5 (w:World) (ok:Bool):Calls prog 215 #[.bool ok] w λ e w'=>
  e=(if ok then .returned (.tuple #[]) else .panicked [{ v:=.iface 263 (.agg #[]),recovered:=false }])/\w'=w:=by
 cases ok
 ·go_enter Tryz.func215,Tryz.ntmps215
  go_wp2
  exact ⟨rfl,rfl,rfl⟩
 ·go_enter Tryz.func215,Tryz.ntmps215
  go_wp2
  go_end0
  exact ⟨rfl,rfl⟩
def supS (bs:List UInt8):Nat:=abH ((bs.drop 8).take 4)
def supL (bs:List UInt8):Nat:=abH ((bs.drop 12).take 4)
def supN (bs:List UInt8):Nat:=abH ((bs.drop 16).take 4)
def Ai2 (bs:List UInt8):Prop:=supS bs<=2048/\supL bs<=256/\supN bs<=1024/\AbY (supS bs) (supL bs) (supN bs)/\ac0 (supS bs) (supL bs) (supN bs)=bs
instance (bs:List UInt8):Decidable (Ai2 bs):=by unfold Ai2;infer_instance
def acC (s l n:Nat):Obj:=.cells #[I s,I l,I n] 32 (0,0)
theorem awB (w:World) (rb g at_ most:Nat) (bs:List UInt8) (hb:bs.length=512) (hr:Blk w rb (afP g 0 512 512 at_)) (hg:Blk w g (aaE bs)) (a0:g≠rb) (a1:at_+4<=512) (hm:most<1099511627776) :
  Calls prog 214 #[↑rb,I 4,I most] w λ e w'=>
   e=(if abH ((bs.drop at_).take 4)<=most then .returned (I (abH ((bs.drop at_).take 4):Nat)) else .panicked [{ v:=.iface 263 (.agg #[]),recovered:=false }]) /\
   Blk w' rb (afP g 0 512 512 (at_+4))/\Blk w' g (aaE bs)/\AaA (· = rb) w w':=by
 have:=aoX w rb g 0 512 512 at_ 4 most bs hr hg a0 a1 (aEK _) (by omega) (by omega) (by omega) (by omega) hm
 rw [Nat.zero_add] at this
 exact this.mono λ e w' h=>⟨h.1,h.2.1,h.2.2.blk hg a0,h.2.2⟩
theorem apS (w:World) (qb vb g:Nat) (bs:List UInt8) (hb:bs.length=512) (hq:Blk w qb (.cells #[.slice ↑g 512 512] 40 (0,0))) (hv:Blk w vb (acC 0 0 0)) (hg:Blk w g (aaE bs))
  (h1:qb≠vb) (h2:g≠vb) (h:Ai2 bs) :
  Calls prog 212 #[↑qb,↑vb] w λ e w'=>
   e=U (.tuple #[])/\Blk w' vb (acC (supS bs) (supL bs) (supN bs))/\AaA (· = vb) w w':=by
 have q0:=hq.cell 0
 simp at q0
 replace ⟨hq,hv,hg,h⟩:=yh4 hq hv hg h
 go_enter Tryz.func212,Tryz.ntmps212
 go_wp2_with fail
 have ap:w.heap.size≠qb/\w.heap.size≠vb/\g≠w.heap.size:=by have:=hq.out.lt;have:=hv.out.lt;have:=hg.out.lt;omega
 have a3:=Blk.new w (.cells #[.slice ↑g 512 512,I 0] 231 (0,0))
 have hq1:=hq.out.alloc (.cells #[.slice ↑g 512 512,I 0] 231 (0,0))
 have aj:=hv.out.alloc (.cells #[.slice ↑g 512 512,I 0] 231 (0,0))
 have hg1:=hg.out.alloc (.cells #[.slice ↑g 512 512,I 0] 231 (0,0))
 have hk1:=(AaA.refl (· = vb) w).alloc (.cells #[.slice ↑g 512 512,I 0] 231 (0,0))
 have a2:∀ i,i=w.heap.size->w.heap.size<=i:=by intro i hi;omega
 generalize w.alloc (.cells #[.slice ↑g 512 512,I 0] 231 (0,0))=w1 at a3 hq1 aj hg1 hk1 ⊢
 generalize a0:w.heap.size=rb at ap a3 a2 ⊢
 obtain ⟨n1,n2,n3⟩:=ap
 refine (auO w1 rb g 0 512 512 0 8 a3 (by omega) (aEK _) (by omega) (by omega)).mono ?_
 rintro e w2 ⟨rfl,a4,k2⟩
 have a5:=k2.blk hg1 n3
 have a6:=k2.blk aj (λ e=>n2 e.symm)
 have hq2:=k2.blk hq1 (λ e=>n1 e.symm)
 have hk2:=hk1.fresh k2 (by intro i hi;have:=a2 i hi;omega)
 clear k2 a3 hg1 aj hq1 hk1 q0
 clear w1
 replace ⟨a4,a5,a6,hq2,hk2,a2,a0⟩:=yh7 a4 a5 a6 hq2 hk2 a2 a0
 go_wp2_with fail
 refine (awB w2 rb g 8 2048 bs hb a4.out a5.out n3 (by omega) (by omega)).mono ?_
 rintro e w3 ⟨rfl,a7,a8,k3⟩
 have hv3:=k3.blk a6.out (λ e=>n2 e.symm)
 have a9:=k3.blk hq2.out (λ e=>n1 e.symm)
 have aa:=hk2.out.fresh k3 (by intro i hi;have:=a2.out i hi;have:=a0.out;omega)
 rw [if_pos (show abH ((bs.drop 8).take 4)<=2048 from h.out.1)]
 clear k3 a4 a5 a6 hq2 hk2
 clear w2
 replace ⟨a7,a8,hv3,a9,aa⟩:=yh5 a7 a8 hv3 a9 aa
 go_wp2_with fail
 refine (awB w3 rb g 12 256 bs hb a7.out a8.out n3 (by omega) (by omega)).mono ?_
 rintro e w4 ⟨rfl,ab,ac,k4⟩
 have ad:=k4.blk hv3.out (λ e=>n2 e.symm)
 have ae:=k4.blk a9.out (λ e=>n1 e.symm)
 have af:=aa.out.fresh k4 (by intro i hi;have:=a2.out i hi;have:=a0.out;omega)
 rw [if_pos (show abH ((bs.drop 12).take 4)<=256 from h.out.2.1)]
 clear k4 a7 a8 hv3 a9 aa
 clear w3
 replace ⟨ab,ac,ad,ae,af⟩:=yh5 ab ac ad ae af
 go_wp2_with fail
 refine (awB w4 rb g 16 1024 bs hb ab.out ac.out n3 (by omega) (by omega)).mono ?_
 rintro e w5 ⟨rfl,au,ag,k5⟩
 have a1:=k5.blk ad.out (λ e=>n2 e.symm)
 have ah:=k5.blk ae.out (λ e=>n1 e.symm)
 have hk5:=af.out.fresh k5 (by intro i hi;have:=a2.out i hi;have:=a0.out;omega)
 rw [if_pos (show abH ((bs.drop 16).take 4)<=1024 from h.out.2.2.1)]
 clear k5 ab ac ad ae af au
 clear w4
 have x0:=a1.cell 0
 have x1:=a1.cell 1
 have x2:=a1.cell 2
 have xf:=a1.frz
 simp at x0 x1 x2
 have hS:abH ((bs.drop 8).take 4)=supS bs:=rfl
 have hL:abH ((bs.drop 12).take 4)=supL bs:=rfl
 have hN:abH ((bs.drop 16).take 4)=supN bs:=rfl
 rw [hS,hL,hN]
 clear hS hL hN
 replace ⟨ag,a1,ah,hk5⟩:=yh4 ag a1 ah hk5
 go_wp2_with fail
 have ai:=((a1.out.setCell 0 (I (supS bs))).setCell 1 (I (supL bs))).setCell 2 (I (supN bs))
 have ak:=((ag.out.setCell_ne (p:=⟨vb,0,none⟩) h2 (I (supS bs))).setCell_ne (p:=⟨vb,1,none⟩) h2 (I (supL bs))).setCell_ne (p:=⟨vb,2,none⟩) h2 (I (supN bs))
 have al:=((ah.out.setCell_ne (p:=⟨vb,0,none⟩) h1 (I (supS bs))).setCell_ne (p:=⟨vb,1,none⟩) h1 (I (supL bs))).setCell_ne (p:=⟨vb,2,none⟩) h1 (I (supN bs))
 have am:=((hk5.out.setCell (p:=⟨vb,0,none⟩) (.inl rfl) (I (supS bs))).setCell (p:=⟨vb,1,none⟩) (.inl rfl) (I (supL bs))).setCell (p:=⟨vb,2,none⟩) (.inl rfl) (I (supN bs))
 generalize ((w5.setCell ↑vb (I (supS bs))).setCell ⟨vb,1,none⟩ (I (supL bs))).setCell ⟨vb,2,none⟩ (I (supN bs))=w6 at ai ak al am ⊢
 have e6:Obj.cells (((#[Value.int .i64 (0:Nat),I (0:Nat),I (0:Nat)].setIfInBounds 0 (I (supS bs))).setIfInBounds 1 (I (supL bs))).setIfInBounds 2 (I (supN bs))) 32 (0,0)=acC (supS bs) (supL bs) (supN bs):=by
  simp [acC]
 rw [e6] at ai
 clear e6 a1 ag ah hk5 x0 x1 x2 xf
 clear w5
 refine (amC w6 _ _ _ h.out.2.2.2.1).mono ?_
 rintro e w7 ⟨ge,av,rfl,an,k7⟩
 have ao:=k7.blk ai (λ f=>f)
 have aq:=k7.blk ak (λ f=>f)
 have ar:=k7.blk al (λ f=>f)
 have hk7:=am.step (k7.mono (λ _ _ f=>f.elim))
 rw [h.out.2.2.2.2] at an
 have hE:=an6 w7 ge 0 512 512 g 0 512 512 bs bs an aq (by omega) (by omega)
 rw [decide_eq_true (by rfl)] at hE
 have q7:=ar.cell 0
 simp at q7
 clear k7 ai ak al am av
 clear w6
 replace ⟨ao,hk7,hE⟩:=yh3 ao hk7 hE;clear aq ar an
 go_wp2_with (first|(go_at_call 169;refine hE.out.mono ?_;rintro e w8 ⟨rfl,rfl⟩)|(go_at_call 215;refine (ar5 _ true).mono ?_;rintro e w8 ⟨rfl,rfl⟩))
 go_end0
 exact ⟨rfl,ao.out,hk7.out⟩
theorem atD (p:Addr) (w:World) :
  CallsD prog 243 #[.pointer (some p)] .returning w λ e u' w'=>e=U (.tuple #[])/\u'=.returning/\w'=w:=by
 have a0:(binOp BinOp.eql 20 .nilIface .nilIface).run prog w=.ok ↑true w:=by kernel_rfl
 refine callsD_of_wpS Tryz.func243 rfl λ c₀ cs hu=>?_
 apply wpS_seq
 apply wpS_region
 simp [wpOpsS,go_sem,recoverD,hu,Tryz.ntmps243,Exit.thenS]
 refine wpS_of_wp ?_
 go_wp2
 cases c₀
 simp_all [bodyPostS,results,Tryz.results243]
theorem apF (b:Nat) (x:Int) (w:World) (hb:Blk w b (.cells #[I x] 63 (0,0))) :
  CallsD prog 243 #[↑b] (.panicking [{ v:=.iface 263 (.agg #[]),recovered:=false }]) w λ e u' w'=>
   e=U (.tuple #[])/\u'=.panicking [{ v:=.iface 263 (.agg #[]),recovered:=true }]/\Blk w' b (.cells #[I 6] 63 (0,0))/\AaA (· = b) w w':=by
 have a3:∀ w,(Instr.typeAssert (.iface 263 (.agg #[])) 20 263 true).run prog w=.ok (.tuple #[.agg #[],↑true]) w:=by intro w;kernel_rfl
 have a0:=hb.alloc (.cells #[] 263 (0,0))
 have a1:=a0.setCell 0 (I 6)
 have a2:=((AaA.refl (· = b) w).alloc (.cells #[] 263 (0,0))).setCell (p:=⟨b,0,none⟩) (.inl rfl) (I 6)
 have hc:=a0.cell 0
 have hz:=a0.frz 0
 simp at hc a1
 clear a0
 replace ⟨a1,a2⟩:=yh2 a1 a2;clear hb
 refine callsD_of_wpS Tryz.func243 rfl λ c₀ cs hu=>?_
 apply wpS_seq
 apply wpS_region
 simp [wpOpsS,go_sem,recoverD,hu,Tryz.ntmps243,Exit.thenS]
 refine wpS_of_wp ?_
 go_wp2
 simp [bodyPostS,results,Tryz.results243]
 exact ⟨a1.out,a2.out⟩
theorem anD (w:World) (k:FuncId) (caps:Array Value) (R:World->Prop) (F:Nat->Prop) (a8:∀ w,(callFunc k caps).run prog w=.ok (.enter k caps) w)
  (a5:∀ w1,w1.heap.size=w.heap.size+1->AaA NoF w w1->Calls prog k caps w1 λ e w'=>e=U (.tuple #[])/\R w'/\AaA F w1 w')
  (hF:¬ F w.heap.size) (hR:∀ w',R w'->R (w'.setCell ↑w.heap.size (I 0))) :
  Calls prog 211 #[.func (.func k) #[] caps] w λ e w'=>e=U (I 0)/\R w'/\AaA F w w':=by
 have a9:∀ (fn:Fn) (first cap:Array Value) (w:World),(Instr.makeFunc fn first cap).run prog w=.ok (.func fn first cap) w:=λ _ _ _ _=>rfl
 have a0:=a5 (w.alloc (.cells #[I 0] 63 (0,0))) (aEI _ _) ((AaA.refl _ w).alloc _)
 replace ⟨a0,hF,hR⟩:=yh3 a0 hF hR;clear a5
 go_enter_defers Tryz.func211,Tryz.ntmps211
 go_wp2_with fail
 refine a0.out.mono ?_
 rintro e w2 ⟨rfl,a6,hk2⟩
 have a1:=hk2.blk (Blk.new w _) hF.out
 have hc:=a1.cell 0
 have hz:=a1.frz
 simp at hc
 have a2:=hR.out w2 a6
 have a3:AaA F w (w2.setCell ↑w.heap.size (I 0)):=(((AaA.refl F w).alloc _).step hk2).setCell (.inr (aEK _)) _
 have a4:=a1.setCell 0 (I 0)
 simp at a4
 have a7:=a4.cell 0
 simp at a7
 replace ⟨a2,a3⟩:=yh2 a2 a3;clear a6 hk2 a1 a4
 go_wp2
 refine leaves_cons (f:=243) (args:=#[↑w.heap.size]) (by simp) (by simp [go_sem]) ?_
 refine (atD ⟨w.heap.size,0,none⟩ _).mono ?_
 rintro e u' w'' ⟨rfl,rfl,rfl⟩
 simp [Leaves,settle,results,Tryz.results211,go_sem,a7]
 exact ⟨a2.out,a3.out⟩
theorem aq0 (w:World) (k:FuncId) (caps:Array Value) (F:Nat->Prop) (a7:∀ w,(callFunc k caps).run prog w=.ok (.enter k caps) w)
  (a3:∀ w1,w1.heap.size=w.heap.size+1->AaA NoF w w1->Calls prog k caps w1 λ e w'=>e=.panicked [{ v:=.iface 263 (.agg #[]),recovered:=false }]/\AaA F w1 w')
  (hF:¬ F w.heap.size) :
  Calls prog 211 #[.func (.func k) #[] caps] w λ e w'=>e=U (I 6)/\AaA F w w':=by
 have a8:∀ (fn:Fn) (first cap:Array Value) (w:World),(Instr.makeFunc fn first cap).run prog w=.ok (.func fn first cap) w:=λ _ _ _ _=>rfl
 have a0:=a3 (w.alloc (.cells #[I 0] 63 (0,0))) (aEI _ _) ((AaA.refl _ w).alloc _)
 replace ⟨a0,hF⟩:=yh2 a0 hF;clear a3
 go_enter_defers Tryz.func211,Tryz.ntmps211
 go_wp2_with fail
 refine a0.out.mono ?_
 rintro e w2 ⟨rfl,hk2⟩
 have a1:=hk2.blk (Blk.new w _) hF.out
 have a2:AaA F w w2:=((AaA.refl F w).alloc _).step hk2
 replace ⟨a2,a1⟩:=yh2 a2 a1;clear hk2
 go_wp2
 refine leaves_cons (f:=243) (args:=#[↑w.heap.size]) (by simp) (by simp [go_sem]) ?_
 refine (apF w.heap.size 0 _ a1.out).mono ?_
 rintro e u' w3 ⟨rfl,rfl,a5,k3⟩
 have a4:=a5.cell 0
 simp at a4
 have a6:=a2.out.fresh k3 (by intro i hi;omega)
 simp [Leaves,settle,results,Tryz.results211,go_sem,a4]
 exact a6
theorem aAF (w:World) (g:Nat) (bs:List UInt8) (hb:bs.length=512) (hg:Blk w g (aaE bs)) (h:Ai2 bs) :
  Calls prog 151 #[.slice ↑g 512 512] w λ e w'=>
   e=U (.tuple #[.agg #[I (supS bs),I (supL bs),I (supN bs)],I 0])/\AaA NoF w w':=by
 replace ⟨hg,h⟩:=yh2 hg h
 go_enter Tryz.func151,Tryz.ntmps151
 go_wp2_with fail
 have a2:=((Blk.new w (.cells #[.slice ↑g 512 512] 40 (0,0))).alloc (acC 0 0 0)).alloc (acC 0 0 0)
 have a1:=(Blk.new (w.alloc (.cells #[.slice ↑g 512 512] 40 (0,0))) (acC 0 0 0)).alloc (acC 0 0 0)
 have hv3:=Blk.new ((w.alloc (.cells #[.slice ↑g 512 512] 40 (0,0))).alloc (acC 0 0 0)) (acC 0 0 0)
 have a4:=((hg.out.alloc (.cells #[.slice ↑g 512 512] 40 (0,0))).alloc (acC 0 0 0)).alloc (acC 0 0 0)
 have a5:=(((AaA.refl NoF w).alloc (.cells #[.slice ↑g 512 512] 40 (0,0))).alloc (acC 0 0 0)).alloc (acC 0 0 0)
 have hs3:(((w.alloc (.cells #[.slice ↑g 512 512] 40 (0,0))).alloc (acC 0 0 0)).alloc (acC 0 0 0)).heap.size=w.heap.size+1+1+1:=by simp only [aEI]
 simp only [aEI] at a1 hv3
 unfold acC at a2 a1 hv3 a4 a5 hs3
 have hlt:=hg.out.lt
 generalize aa:((w.alloc (.cells #[.slice ↑g 512 512] 40 (0,0))).alloc (.cells #[I (0:Nat),I (0:Nat),I (0:Nat)] 32 (0,0))).alloc (.cells #[I (0:Nat),I (0:Nat),I (0:Nat)] 32 (0,0))=w3 at a2 a1 hv3 a4 a5 hs3
 clear aa
 have a9:w.heap.size≠w.heap.size+1+1:=by omega
 have a3:g≠w.heap.size+1+1:=by omega
 generalize ab:w.heap.size=qb at a2 a1 hv3 hs3 a9 a3 hlt ⊢
 refine (anD w3 212 #[↑qb,.pointer (some ⟨qb+1+1,0,none⟩)] (λ w'=>Blk w' (qb+1+1) (acC (supS bs) (supL bs) (supN bs))) (· = qb+1+1) (λ w=>by kernel_rfl) ?_ ?_ ?_).mono ?_
 ·intro w4 ac a8
  exact apS w4 qb (qb+1+1) g bs hb (a8.blk a2 (λ f=>f)) (a8.blk hv3 (λ f=>f)) (a8.blk a4 (λ f=>f)) a9 a3 h.out
 ·rw [hs3];omega
 ·intro w4 h4;exact h4.setCell_ne (by show qb+1+1≠w3.heap.size;rw [hs3];omega) _
 rintro e w5 ⟨rfl,a6,k5⟩
 have a0:=k5.blk a1 (by omega)
 have hk5:=a5.fresh k5 (by intro i hi;omega)
 have x0:=a6.cell 0
 have x1:=a6.cell 1
 have x2:=a6.cell 2
 simp at x0 x1 x2
 have t0:=a0.cell 0
 have t1:=a0.cell 1
 have t2:=a0.cell 2
 have tf:=a0.frz
 simp at t0 t1 t2
 have a7:=((hk5.setCell (p:=⟨qb+1,0,none⟩) (.inr (by show _<=qb+1;omega)) (I (supS bs))).setCell (p:=⟨qb+1,1,none⟩) (.inr (by show _<=qb+1;omega)) (I (supL bs))).setCell (p:=⟨qb+1,2,none⟩) (.inr (by show _<=qb+1;omega)) (I (supN bs))
 clear k5 a5 hk5 a2 a1 hv3 a4 hs3
 clear w3
 replace ⟨a0,a7⟩:=yh2 a0 a7;clear a6 ab
 have ht6:=((a0.out.setCell 0 (I (supS bs))).setCell 1 (I (supL bs))).setCell 2 (I (supN bs))
 simp at ht6
 replace ht6:=hid ht6
 go_wp2
 generalize ((w5.setCell ⟨qb+1,0,none⟩ (I (supS bs))).setCell ⟨qb+1,1,none⟩ (I (supL bs))).setCell ⟨qb+1,2,none⟩ (I (supN bs))=w6 at ht6 a7 ⊢
 have u0:=ht6.out.cell 0
 have u1:=ht6.out.cell 1
 have u2:=ht6.out.cell 2
 simp at u0 u1 u2
 exact bodyPost_ret (v:=.tuple #[.agg #[I (supS bs),I (supL bs),I (supN bs)],I 0]) (by simp [results,Tryz.results151,go_sem,u0,u1,u2]) rfl ⟨rfl,a7.out⟩
section
variable {w:World} {d:Nat} {D:DM} {F:List Nat}
theorem aw4 (h:AaI w d D F) (f:Nat) (h3:f<=D.n) (h4:D.n<=2048) (hw:D.writes<1099511620000) :
  Calls prog 164 #[↑d,I f] w λ e w'=>
   e=U (I ((D.zeroRun f (D.n - f)).1:Nat))/\AeN w d F (D.zeroRun f (D.n - f)).2 w':=by
 have ac:=al2
 generalize hn:D.n=N at h3 h4 ⊢
 have hX:∀ W c D',c=(D.zeroRun f (N - f)).1->D'=(D.zeroRun f (N - f)).2->AeN w d F D' W ->
   (Ending.returned (I (c:Nat))=U (I ((D.zeroRun f (N - f)).1:Nat))/\AeN w d F (D.zeroRun f (N - f)).2 W):=by
  rintro W c D' rfl rfl h
  exact ⟨rfl,h⟩
 have hlt:=h.lt
 have hA:DAt w d F D F (w.alloc (aaE (aaD 512))):=⟨h.keeps ((AaA.refl NoF w).alloc _) (λ _ _ f=>f),λ _ hk=>.inl hk,(AaA.refl _ w).alloc _⟩
 have hZ:=Blk.new w (aaE (aaD 512))
 have a4:w.heap.size∉F:=λ hm=>by have:=hlt _ hm;omega
 generalize hx:D.zeroRun f (N - f)=x at hX
 have h5:=And.intro hA hZ
 replace ⟨hX,hx,a4,h5⟩:=yh4 hX hx a4 h5;clear h hlt
 go_enter Tryz.func164,Tryz.ntmps164
 go_upto_region 2 with fail
 refine adW (λ W=>DAt w d F D F W/\Blk W w.heap.size (aaE (aaD 512))) h5.out ?_
 clear h5 hA hZ
 rintro w5 ⟨hA,hz⟩
 have a8:w.heap.size<=w.heap.size:=aEK _
 generalize a9:w.heap.size=z at hz a4 a8 ⊢
 replace ⟨hA,hz⟩:=yh2 hA hz;clear a8 a9
 go_wp2
 go_loopw [6] (λ i wr=>∃ (k:Nat) (Dk:DM) (Fk:List Nat),f+k<=N/\i=I (f+k:Nat)/\Dk.zeroRun (f+k) (N - f - k)=x/\Dk.n=N/\Dk.writes<=D.writes+k/\DAt w d F Dk Fk wr/\Blk wr z (aaE (aaD 512))/\z∉Fk) (λ i _=>N - (intOf i).toNat)
 case atStart=>exact ⟨0,D,F,by omega,rfl,by rw [← hx.out,Nat.add_zero,Nat.sub_zero],hn,Nat.le_add_right _ _,hA.out,hz.out,a4.out⟩
 case round=>
  obtain ⟨k,Dk,Fk,hk,rfl,a0,a6,ad,a1,a2,a3⟩:=hrel
  clear hA hz
  have hcast:((f+k:Nat):Int)=(f:Int)+(k:Int):=by omega
  have hS:=agM a1.rep
  rw [a6] at hS
  by_cases aa:f+k<N
  ·obtain ⟨c,hc⟩:∃ c,N - f - k=c+1:=⟨N - f - k - 1,by omega⟩
   rw [hc] at a0
   cases a5:Dk.burnt with
   | true=>
    rw [ahG _ _ _ a5] at a0
    have hXX:=hX.out wr 3 Dk (by rw [← a0]) (by rw [← a0]) a1.post
    have hW:=aj1 a1.rep a5 ((f+k:Nat):Int) (.slice ↑z 512 512)
    replace ⟨a0,a1,a2,hW,hXX,hcast,hS⟩:=yh7 a0 a1 a2 hW hXX hcast hS
    go_wp2_with (first
     | (go_at_call 152;refine hS.out.mono ?_;rintro e w8 ⟨rfl,rfl⟩)
     | (go_at_call 162;refine hW.out.mono ?_;rintro e w8 ⟨rfl,rfl⟩))
    go_ret
    exact hXX.out
   | false=>
    rw [afZ _ _ _ a5] at a0
    have hW:=ah5 a1.rep a5 ((f+k:Nat):Int) (by omega) (by rw [a6];omega) (by omega) z 0 512 5 (aaD 512) a2 (by rw [aaF];decide)
    rw [aER,aEO (by rw [aaF];decide),Int.toNat_natCast] at hW
    replace ⟨a0,a1,a2,hW,hcast,hS⟩:=yh6 a0 a1 a2 hW hcast hS
    go_wp2_with (first
     | (go_at_call 152;refine hS.out.mono ?_;rintro e w8 ⟨rfl,rfl⟩)
     | (go_at_call 162;refine hW.out.mono ?_;rintro e w8 ⟨rfl,hp8⟩;replace hp8:=hid hp8))
    obtain ⟨F8,a7⟩:=DAt.of hp8.out
    have ab:=a2.out.lt
    refine ⟨⟨k+1,(Dk.wrote (f+k) (aaD 512)).spent,F8,by omega,by go_num,?_,by rw [wr_n];exact a6,by rw [alI];omega,a1.out.trans a7,a7.blk a2.out a3,a7.out_of a3 ab⟩,?_⟩
    ·rw [← a0.out,show N - f - (k+1)=c by omega];rfl
    ·simp [intOf];omega
  ·have hk2:N - f - k=0:=by omega
   rw [hk2] at a0
   have hrun':x=(0,Dk):=a0.symm
   have hXX:=hX.out wr 0 Dk (by rw [hrun']) (by rw [hrun']) a1.post
   have ae:(N:Int)<=(f:Int)+(k:Int):=by omega
   replace ⟨hXX,hS⟩:=yh2 hXX hS;clear a0 a1 a2 hcast hrun' hk2 aa
   go_wp2_with (go_at_call 152;refine hS.out.mono ?_;rintro e w8 ⟨rfl,rfl⟩)
   go_ret
   exact hXX.out
end
end Go.Vk
