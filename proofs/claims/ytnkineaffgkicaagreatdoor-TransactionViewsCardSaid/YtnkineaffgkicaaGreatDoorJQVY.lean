/- A part of the proof. -/
import Derived.Test.YtnkineaffgkicaaGreatDoorLA62
import Derived.Test.YtnkineaffgkicaaGreatDoorH33
import Derived.Test.YtnkineaffgkicaaGreatDoorJQV4
set_option maxHeartbeats 16000000
set_option maxRecDepth 100000
set_option linter.unusedVariables false
set_option linter.defProp false
namespace Go.Proofs.YtnkineaffgkicaaGreatDoor.transactionViews
open Go Go.Vc Go.RowKit Go.WideShapes Go.ChangeShapes
theorem sps:∀t∈Tryz.f3.params.toList,BG Tryz.prog t:=by
 rw[Tryz.params3];exact List.forall_mem_cons.2 ⟨Zw.sp,List.forall_mem_cons.2 ⟨Wl.sp,List.forall_mem_cons.2 ⟨aou.sp,List.forall_mem_cons.2 ⟨aov.sp,λ _ h=>by cases h⟩⟩⟩⟩
theorem own:ownKnob Tryz.prog.godebug=none:=by kernel_rfl
theorem lifted (os:Os)(d:os.Started)(H:Type)(enc:TypeId×Value->H):
  ReturnsInHanded {} Tryz.checked os 3 .any (λ w b=>(Rows.transactionViewsSpec.pre enc Tryz.prog Tryz.f3 Rows.transactionViewsRow.domain false w b/\laidMetH Tryz.prog Ip w)/\sizedMet enc Tryz.prog Tryz.f3 (OpenSpec.ofChange Rows.transactionViewsSpec) false w b)
   (Rows.transactionViewsSpec.post enc Tryz.prog Tryz.f3 false true false false):=by
 refine returnsInHanded_of_change_and (C:=Tryz.checked) (X:=λ w _=>laidMetH Tryz.prog Ip w) (λ _ _ _ hh h=>h.of_heap hh) own d (by kernel_rfl) Tryz.func3
  (ChangeSpec.witness_shaped (enc:=enc) (C:=Tryz.checked) (os:=os) (X:=λ w _=>laidMetH Tryz.prog Ip w) false (World.doorLaid Tryz.prog 400 os) #[.agg #[Φu 0,Φu 0,Φu 0,Φu 0,Φu 0,Φu 0,Φu 0,Φu 0],.slice none 0 0,.slice none 0 0,.string ⟨#[]⟩] 8 rfl (World.shaped_of_RefB (by kernel_rfl) (by kernel_rfl)) (by kernel_rfl) (by kernel_rfl) (by kernel_rfl) (Rp os _)) ?_
 intro a s b ds gs B g hW b6 u hL _;have A:=SY (SX hL);have c:∀(j:Nat) t v,Tryz.f3.params[j]?=some t->b[j]?=some v->Value.okWide Tryz.prog a .any s t v:=g;have x:=hW;obtain⟨p,q,a2,hV,rfl,c3,c7⟩:=hW;have hA:DataW.TrodAll enc Tryz.prog a 0 (λ _=>true) true Tryz.f3.params.toList b.toList ds p:=a2;have f:(DataW.weightsEach Tryz.prog (Tryz.f3.params.toList++Rows.transactionViewsSpec.plain.varTypes Tryz.prog) (ds++gs)).all (·<=reachBytes)=true:=u;have a9:=hA;obtain⟨rfl,rfl⟩:=trodVars_none hV;rw[Tryz.params3]at hA c f;obtain⟨v0,c0,d0,b9,p0,q0,a4,rfl,rfl,h0,r0⟩:=trodAll_cons hA;obtain⟨v1,b8,d1,c4,p1,q1,rfl,rfl,rfl,h1,r1⟩:=trodAll_cons r0;obtain⟨v2,c6,d2,c1,p2,q2,rfl,rfl,rfl,h2,r2⟩:=trodAll_cons r1;obtain⟨v3,c5,d3,c2,p3,q3,rfl,rfl,rfl,h3,r3⟩:=trodAll_cons r2;obtain⟨rfl,rfl,rfl⟩:=trodAll_nil r3;obtain rfl:b=#[v0,v1,v2,v3]:=by cases b;simp_all
 have b0:=c 0 23 v0 rfl rfl;have w0:=jW (i:=0) f rfl rfl;obtain⟨K,rfl,-⟩:=Fe Tryz.underlying23 b0;obtain⟨y0,b2,r,o,b7,l,n,y,m,k⟩:=LR Zw h0 w0;obtain rfl:K=⟨_⟩:=aak Array.mk b2;have R:=c 1 24 v1 rfl rfl;have w1:=jW (i:=1) f rfl rfl;obtain⟨P,Y,b5,rfl⟩:=okWide_slice Tryz.underlying24 R;obtain⟨y1,b3,a6,a7,E,T⟩:=LR Wl h1 w1;obtain⟨rfl,rfl,rfl⟩:P=b3/\Y=a6/\b5=a7:=by simpa[Value.cells]using E
 have b4:=c 2 25 v2 rfl rfl;have w2:=jW (i:=2) f rfl rfl;obtain⟨Q,a0,a5,rfl⟩:=okWide_slice Tryz.underlying25 b4;obtain⟨y2,a8,a3,Z,a1,D⟩:=LR aou h2 w2;obtain⟨rfl,rfl,rfl⟩:Q=a8/\a0=a3/\a5=Z:=by simpa[Value.cells]using a1
 have F:=c 3 9 v3 rfl rfl;have w3:=jW (i:=3) f rfl rfl;obtain⟨x3,rfl⟩:=okWide_string Tryz.underlying9 F;refine(Ro (aop A T D r o l n y m k) (Im a)).mono λ e W' ⟨he,hb⟩=>?_;subst he;exact⟨_,rfl,BH (pa:=_) (pv:=[]) x (λ _ _ _=>trodAll_mk1 (shut_bool Tryz.underlying4 _))
  (λ sp b1=>AN sps a9 (λ z G=>hb.same (x.lt z (by simpa using G))) (λ z G=>b1 z (by simpa using G))) (λ _ _=>rfl) rfl hb (ok_one (by kernel_rfl) rfl (okWide_bool_mk Tryz.underlying4 _))⟩
theorem said:Rows.TransactionViewsSaid:=
 OpenClaim.holds_of_wide 3 Tryz.f3 rfl rfl rfl rfl rfl rfl rfl ⟨rfl,rfl,rfl,rfl,rfl⟩ rfl rfl rfl rfl rfl (by kernel_rfl) Tryz.func3 aos
  (aab (by kernel_rfl)) (by unfold Func.isWrapper;first |(rw[if_pos (by decide+kernel)];kernel_rfl) |(rw[if_neg (by decide+kernel)];exact⟨rfl,rfl⟩))
  (λ c a H b _=>lifted c a H b)
end Go.Proofs.YtnkineaffgkicaaGreatDoor.transactionViews
