/- Part of the proof: NodeMakesProof. -/
import Derived.Test.YtjeelghnmkefcaaGreatQ50
import Derived.Test.YtjeelghnmkefcaaGreatRows
import Derived.WalkKit
import Derived.ProofKit
import Derived.OpenShut
import Derived.Carry
import Derived.Lib.SmallJoins
set_option linter.unusedVariables false
set_option maxHeartbeats 16000000
set_option maxRecDepth 100000
namespace Go.Proofs.YtjeelghnmkefcaaGreat.nodeMakes
open Go.ChangeShapes Go.WideShapes Go.ChangeAt Go.RowKit Go.Vk
set_option linter.unusedVariables false
theorem laidOut:laidOutB Tryz.prog=true:=by kernel_rfl
theorem own:ownKnob Tryz.prog.godebug=none:=by kernel_rfl
set_option maxRecDepth 100000 in
theorem aqU (w:World) (a b c:Int) (va:Value) (ss:List OpR) (hva:AnQ w va ss) :
  Calls Tryz.prog 4 #[.agg #[.int .i64 a,.int .i64 b,.int .i64 c],va] w (AnL w):=by
 have kA:AaA (fun _=>False) w (w.alloc (.cells #[.int .i64 a,.int .i64 b,.int .i64 c] 23 (0,0))):=(AaA.refl _ w).alloc _
 have hPl:=fun k1 k2=>(ax2 _ a b c va ss (hva.keeps kA) k1 k2).mono fun e w' x=>(⟨x.1,rfl,kA.step x.2⟩:e=.returned (.bool true)∧AnL w (.returned (.bool true)) w')
 obtain ⟨aA,cA,rfl,_⟩:=hva
 generalize AnL w=Post at *
 replace hPl:=hid hPl;clear kA
 go_enter Tryz.func4,Tryz.ntmps4
 go_wp2_with fail
 refine (hPl.out _ _).mono ?_
 rintro e w1 ⟨rfl,hQ⟩
 clear hPl
 replace hQ:=hid hQ
 go_wp2
 exact hQ.out
set_option maxRecDepth 100000 in
theorem lifted (os:Os) (started:os.Started) (H:Type) (enc:TypeId × Value→H) :
  ReturnsInHanded {} Tryz.checked os 4 .any (Rows.nodeMakesSpec.pre6 enc Tryz.prog Tryz.f4 Rows.nodeMakesRow.domain false) (Rows.nodeMakesSpec.post enc Tryz.prog Tryz.f4 false true false false):=by
 refine returnsInHanded_of_change (C:=Tryz.checked) own started (by kernel_rfl) Tryz.func4
  (ChangeSpec.witness6 (enc:=enc) (C:=Tryz.checked) false ⟨#[],#[.agg #[.int .i64 0,.int .i64 0,.int .i64 0],.slice none 0 0],[]⟩ 8 (by kernel_rfl) (by kernel_rfl) (by kernel_rfl) (by kernel_rfl)) ?_
 intro W base args ds gs before hval0 hW hcnd _
 have hval:∀ (j:Nat) t v,Tryz.f4.params[j]? = some t→args[j]? = some v→Value.okWide Tryz.prog W .any base t v:=hval0
 have hW':=hW
 obtain ⟨p,q,hA0,hV,rfl,hfz,hnd⟩:=hW
 have hA:DataW.TrodAll enc Tryz.prog W 0 (fun _=>true) true Tryz.f4.params.toList args.toList ds p:=hA0
 rw [Tryz.params4] at hA hval
 obtain ⟨v0,v1,d0,d1,p0,p1,rfl,rfl,rfl,h0,h1⟩:=trodAll_two hA
 obtain ⟨rfl,rfl⟩:=trodVars_none hV
 clear hA0 hval0
 simp only [List.append_nil] at hW'
 have hlt:∀ x∈p0++p1,x.block<W.heap.size:=fun x hx=>by simpa using hW'.lt x hx
 obtain ⟨x0,x1,x2,y0,y1,y2,n,e0,_,_,t0,t1,t2⟩:=Go.Joins.open_agg3 Tryz.underlying23 (by kernel_rfl) (by kernel_rfl) (hval 0 _ v0 rfl rfl) h0
 obtain ⟨a,ha,_⟩:=DataW.trod_int Tryz.underlying3 t0
 obtain ⟨b,hb,_⟩:=DataW.trod_int Tryz.underlying3 t1
 obtain ⟨c,hc,_⟩:=DataW.trod_int Tryz.underlying3 t2
 obtain ⟨ss,hss⟩:=ax7 (hval 1 _ v1 rfl rfl) h1
 simp only [List.cons.injEq,and_true] at ha hb hc
 subst ha hb hc e0
 refine (aqU W a b c v1 ss hss).mono fun e W' ⟨he,hk⟩=>?_
 subst he
 have hB:=aqX hk
 have r0:=Below.trod laidOut (by kernel_rfl) (of_decide_eq_true (by kernel_rfl)) h0 hB (fun x hx=>hlt x (List.mem_append_left _ hx))
 have r1:=Below.trod laidOut (by kernel_rfl) (of_decide_eq_true (by kernel_rfl)) h1 hB (fun x hx=>hlt x (List.mem_append_right _ hx))
 exact ⟨_,rfl,⟨_,_,_,[],_,[],hW',trodAll_mk1 (shut_bool Tryz.underlying4 _),trodAll_mk2 r0 r1,rfl,hB.frame _,fun h=>by cases h⟩⟩
theorem over:Rows.nodeMakesRow.holds Tryz.pinned (OpenSpec.ofChange Rows.nodeMakesSpec):=
 OpenClaim.holds_of_wide 4 Tryz.f4 rfl rfl rfl rfl rfl rfl rfl ⟨rfl,rfl,rfl,rfl,rfl⟩ rfl rfl rfl rfl rfl (by kernel_rfl) Tryz.func4 (by kernel_rfl)
  (of_decide_eq_true (by kernel_rfl)) (by unfold Func.isWrapper;first|(rw [if_pos (by decide +kernel)];kernel_rfl)|(rw [if_neg (by decide +kernel)];exact ⟨rfl,rfl⟩))
  (fun os started H enc _=>lifted os started H enc)
theorem proved:Rows.NodeMakesSaid:=
 over
#print axioms proved
end Go.Proofs.YtjeelghnmkefcaaGreat.nodeMakes
