/- A part of the proof. -/
import Derived.Test.YtnkineaffgkicaaGreatDoorLA65
import Derived.Test.YtnkineaffgkicaaGreatDoorH33
import Derived.Test.YtnkineaffgkicaaGreatDoorJQK4
set_option maxHeartbeats 16000000
set_option maxRecDepth 100000
set_option linter.unusedVariables false
set_option linter.defProp false
namespace Go.Proofs.YtnkineaffgkicaaGreatDoor.transactionKeeps
open Go Go.Vc Go.RowKit Go.WideShapes Go.ChangeShapes
theorem sps:∀t∈Tryz.f4.params.toList,BG Tryz.prog t:=by
 rw[Tryz.params4];exact List.forall_mem_cons.2 ⟨Zw.sp,List.forall_mem_cons.2 ⟨Wl.sp,List.forall_mem_cons.2 ⟨aou.sp,λ _ h=>by cases h⟩⟩⟩
theorem own:ownKnob Tryz.prog.godebug=none:=by kernel_rfl
theorem lifted (os:Os)(d:os.Started)(H:Type)(enc:TypeId×Value->H):
  ReturnsInHanded {} Tryz.checked os 4 .any (λ w b=>(Rows.transactionKeepsSpec.pre enc Tryz.prog Tryz.f4 Rows.transactionKeepsRow.domain false w b/\laidMetH Tryz.prog Ip w)/\sizedMet enc Tryz.prog Tryz.f4 (OpenSpec.ofChange Rows.transactionKeepsSpec) false w b)
   (Rows.transactionKeepsSpec.post enc Tryz.prog Tryz.f4 false true false false):=by
 refine returnsInHanded_of_change_and (C:=Tryz.checked) (X:=λ w _=>laidMetH Tryz.prog Ip w) (λ _ _ _ hh h=>h.of_heap hh) own d (by kernel_rfl) Tryz.func4
  (ChangeSpec.witness_shaped (enc:=enc) (C:=Tryz.checked) (os:=os) (X:=λ w _=>laidMetH Tryz.prog Ip w) false (World.doorLaid Tryz.prog 400 os) #[.agg #[Φu 0,Φu 0,Φu 0,Φu 0,Φu 0,Φu 0,Φu 0,Φu 0],.slice none 0 0,.slice none 0 0] 8 rfl (World.shaped_of_RefB (by kernel_rfl) (by kernel_rfl)) (by kernel_rfl) (by kernel_rfl) (by kernel_rfl) (Rp os _)) ?_
 intro a s b ds gs B g hW b5 u hL _;have A:=SY (SX hL);have c:∀(j:Nat) t v,Tryz.f4.params[j]?=some t->b[j]?=some v->Value.okWide Tryz.prog a .any s t v:=g;have x:=hW;obtain⟨p,q,a1,hV,rfl,c1,c4⟩:=hW;have hA:DataW.TrodAll enc Tryz.prog a 0 (λ _=>true) true Tryz.f4.params.toList b.toList ds p:=a1;have f:(DataW.weightsEach Tryz.prog (Tryz.f4.params.toList++Rows.transactionKeepsSpec.plain.varTypes Tryz.prog) (ds++gs)).all (·<=reachBytes)=true:=u;have a8:=hA;obtain⟨rfl,rfl⟩:=trodVars_none hV;rw[Tryz.params4]at hA c f;obtain⟨v0,b9,d0,b8,p0,q0,a3,rfl,rfl,h0,r0⟩:=trodAll_cons hA;obtain⟨v1,b7,d1,c2,p1,q1,rfl,rfl,rfl,h1,r1⟩:=trodAll_cons r0;obtain⟨v2,c3,d2,c0,p2,q2,rfl,rfl,rfl,h2,r2⟩:=trodAll_cons r1;obtain⟨rfl,rfl,rfl⟩:=trodAll_nil r2;obtain rfl:b=#[v0,v1,v2]:=by cases b;simp_all
 have a9:=c 0 23 v0 rfl rfl;have w0:=jW (i:=0) f rfl rfl;obtain⟨G,rfl,-⟩:=Fe Tryz.underlying23 a9;obtain⟨y0,b1,r,o,b6,l,n,y,m,k⟩:=LR Zw h0 w0;obtain rfl:G=⟨_⟩:=aak Array.mk b1;have Q:=c 1 24 v1 rfl rfl;have w1:=jW (i:=1) f rfl rfl;obtain⟨K,T,b4,rfl⟩:=okWide_slice Tryz.underlying24 Q;obtain⟨y1,b2,a5,a6,E,R⟩:=LR Wl h1 w1;obtain⟨rfl,rfl,rfl⟩:K=b2/\T=a5/\b4=a6:=by simpa[Value.cells]using E
 have b3:=c 2 25 v2 rfl rfl;have w2:=jW (i:=2) f rfl rfl;obtain⟨P,Z,a4,rfl⟩:=okWide_slice Tryz.underlying25 b3;obtain⟨y2,a7,a2,Y,a0,D⟩:=LR aou h2 w2;obtain⟨rfl,rfl,rfl⟩:P=a7/\Z=a2/\a4=Y:=by simpa[Value.cells]using a0
 refine(Ro (aoS A R D r o l n y m k) (Im a)).mono λ e W' ⟨he,hb⟩=>?_;subst he;exact⟨_,rfl,BH (pa:=_) (pv:=[]) x (λ _ _ _=>trodAll_mk1 (shut_bool Tryz.underlying4 _))
  (λ sp b0=>AN sps a8 (λ z F=>hb.same (x.lt z (by simpa using F))) (λ z F=>b0 z (by simpa using F))) (λ _ _=>rfl) rfl hb (ok_one (by kernel_rfl) rfl (okWide_bool_mk Tryz.underlying4 _))⟩
theorem said:Rows.TransactionKeepsSaid:=
 OpenClaim.holds_of_wide 4 Tryz.f4 rfl rfl rfl rfl rfl rfl rfl ⟨rfl,rfl,rfl,rfl,rfl⟩ rfl rfl rfl rfl rfl (by kernel_rfl) Tryz.func4 aoV
  (aab (by kernel_rfl)) (by unfold Func.isWrapper;first |(rw[if_pos (by decide+kernel)];kernel_rfl) |(rw[if_neg (by decide+kernel)];exact⟨rfl,rfl⟩))
  (λ c a H b _=>lifted c a H b)
end Go.Proofs.YtnkineaffgkicaaGreatDoor.transactionKeeps
