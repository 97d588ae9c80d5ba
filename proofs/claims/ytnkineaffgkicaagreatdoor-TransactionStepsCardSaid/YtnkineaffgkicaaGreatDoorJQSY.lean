/- A part of the proof of TransactionSteps. -/
import Derived.Test.YtnkineaffgkicaaGreatDoorG34
import Derived.Test.YtnkineaffgkicaaGreatDoorG35
import Derived.Test.YtnkineaffgkicaaGreatDoorJQS4
set_option maxHeartbeats 16000000
set_option maxRecDepth 100000
set_option linter.unusedVariables false
set_option linter.defProp false
namespace Go.Proofs.YtnkineaffgkicaaGreatDoor.transactionSteps
open Go Go.Vc Go.RowKit Go.WideShapes Go.ChangeShapes
theorem sps:∀t∈Tryz.f6.params.toList,BG Tryz.prog t:=by
 rw[Tryz.params6];exact List.forall_mem_cons.2 ⟨Zw.sp,List.forall_mem_cons.2 ⟨Wl.sp,List.forall_mem_cons.2 ⟨Zw.sp,λ _ h=>by cases h⟩⟩⟩
theorem own:ownKnob Tryz.prog.godebug=none:=by kernel_rfl
theorem lifted (os:Os)(d:os.Started)(H:Type)(enc:TypeId×Value->H):
  ReturnsInHanded {} Tryz.checked os 6 .any (λ w b=>(Rows.transactionStepsSpec.pre enc Tryz.prog Tryz.f6 Rows.transactionStepsRow.domain false w b/\laidMetH Tryz.prog Ip w)/\sizedMet enc Tryz.prog Tryz.f6 (OpenSpec.ofChange Rows.transactionStepsSpec) false w b)
   (Rows.transactionStepsSpec.post enc Tryz.prog Tryz.f6 false true false false):=by
 refine returnsInHanded_of_change_and (C:=Tryz.checked) (X:=λ w _=>laidMetH Tryz.prog Ip w) (λ _ _ _ hh h=>h.of_heap hh) own d (by kernel_rfl) Tryz.func6
  (ChangeSpec.witness_shaped (enc:=enc) (C:=Tryz.checked) (os:=os) (X:=λ w _=>laidMetH Tryz.prog Ip w) false (World.doorLaid Tryz.prog 400 os) #[.agg #[Φu 0,Φu 0,Φu 0,Φu 0,Φu 0,Φu 0,Φu 0,Φu 0],.slice none 0 0,.agg #[Φu 0,Φu 0,Φu 0,Φu 0,Φu 0,Φu 0,Φu 0,Φu 0]] 8 rfl (World.shaped_of_RefB (by kernel_rfl) (by kernel_rfl)) (by kernel_rfl) (by kernel_rfl) (by kernel_rfl) (Rp os _)) ?_
 intro a A b ds gs R g hW b7 B hL _;have P:=SY (SX hL);have c:∀(j:Nat) t v,Tryz.f6.params[j]?=some t->b[j]?=some v->Value.okWide Tryz.prog a .any A t v:=g;have D:=hW;obtain⟨p,q,a5,hV,rfl,c3,c6⟩:=hW;have hA:DataW.TrodAll enc Tryz.prog a 0 (λ _=>true) true Tryz.f6.params.toList b.toList ds p:=a5;have f:(DataW.weightsEach Tryz.prog (Tryz.f6.params.toList++Rows.transactionStepsSpec.plain.varTypes Tryz.prog) (ds++gs)).all (·<=reachBytes)=true:=B;have a9:=hA;obtain⟨rfl,rfl⟩:=trodVars_none hV;rw[Tryz.params6]at hA c f;obtain⟨v0,c1,d0,c0,p0,q0,a6,rfl,rfl,h0,r0⟩:=trodAll_cons hA;obtain⟨v1,b9,d1,c4,p1,q1,rfl,rfl,rfl,h1,r1⟩:=trodAll_cons r0;obtain⟨v2,c5,d2,c2,p2,q2,rfl,rfl,rfl,h2,r2⟩:=trodAll_cons r1;obtain⟨rfl,rfl,rfl⟩:=trodAll_nil r2;obtain rfl:b=#[v0,v1,v2]:=by cases b;simp_all
 have b0:=c 0 23 v0 rfl rfl;have w0:=jW (i:=0) f rfl rfl;obtain⟨Z,rfl,-⟩:=Fe Tryz.underlying23 b0;obtain⟨y0,b2,y,x,b8,n,u,K,s,l⟩:=LR Zw h0 w0;obtain rfl:Z=⟨_⟩:=aak Array.mk b2;have a1:=c 1 24 v1 rfl rfl;have w1:=jW (i:=1) f rfl rfl;obtain⟨a0,a3,b6,rfl⟩:=okWide_slice Tryz.underlying24 a1;obtain⟨y1,b4,a7,a8,T,a2⟩:=LR Wl h1 w1;obtain⟨rfl,rfl,rfl⟩:a0=b4/\a3=a7/\b6=a8:=by simpa[Value.cells]using T
 have b5:=c 2 23 v2 rfl rfl;have w2:=jW (i:=2) f rfl rfl;obtain⟨b3,rfl,-⟩:=Fe Tryz.underlying23 b5;obtain⟨y2,a4,k,m,o,r,Q,E,F,G⟩:=LR Zw h2 w2;obtain rfl:b3=⟨_⟩:=aak Array.mk a4;refine(Ro (aeK P a2 y x n u K s l k m o r Q E F G) (Im a)).mono λ e W' ⟨he,hb⟩=>?_;subst he;exact⟨_,rfl,BH (pa:=_) (pv:=[]) D (λ _ _ _=>trodAll_mk1 (shut_bool Tryz.underlying4 _))
  (λ sp b1=>AN sps a9 (λ z Y=>hb.same (D.lt z (by simpa using Y))) (λ z Y=>b1 z (by simpa using Y))) (λ _ _=>rfl) rfl hb (ok_one (by kernel_rfl) rfl (okWide_bool_mk Tryz.underlying4 _))⟩
theorem said:Rows.TransactionStepsSaid:=
 OpenClaim.holds_of_wide 6 Tryz.f6 rfl rfl rfl rfl rfl rfl rfl ⟨rfl,rfl,rfl,rfl,rfl⟩ rfl rfl rfl rfl rfl (by kernel_rfl) Tryz.func6 aeO
  (aab (by kernel_rfl)) (by unfold Func.isWrapper;first |(rw[if_pos (by decide+kernel)];kernel_rfl) |(rw[if_neg (by decide+kernel)];exact⟨rfl,rfl⟩))
  (λ c a H b _=>lifted c a H b)
end Go.Proofs.YtnkineaffgkicaaGreatDoor.transactionSteps
