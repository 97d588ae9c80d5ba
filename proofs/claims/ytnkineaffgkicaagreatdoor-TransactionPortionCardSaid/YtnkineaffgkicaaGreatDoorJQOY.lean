/- A part of the proof. -/
import Derived.Test.YtnkineaffgkicaaGreatDoorLA66
import Derived.Test.YtnkineaffgkicaaGreatDoorH33
import Derived.Test.YtnkineaffgkicaaGreatDoorJQO4
set_option maxHeartbeats 0
set_option maxRecDepth 100000
namespace Go.Proofs.YtnkineaffgkicaaGreatDoor.transactionPortion
open Go Go.Vc Go.RowKit Go.WideShapes Go.ChangeShapes
theorem sps:∀t∈Tryz.f9.params.toList,BG Tryz.prog t:=by
 rw[Tryz.params9];exact List.forall_mem_cons.2 ⟨Zw.sp,List.forall_mem_cons.2 ⟨Wl.sp,List.forall_mem_cons.2 ⟨aou.sp,List.forall_mem_cons.2 ⟨aow.sp,λ _ h=>by cases h⟩⟩⟩⟩
theorem own:ownKnob Tryz.prog.godebug=none:=by kernel_rfl
theorem lifted (os:Os)(d:os.Started)(H:Type)(enc:TypeId×Value->H):
  ReturnsInHanded {} Tryz.checked os 9 .any (λ w b=>(Rows.transactionPortionSpec.pre enc Tryz.prog Tryz.f9 Rows.transactionPortionRow.domain false w b/\laidMetH Tryz.prog Ip w)/\sizedMet enc Tryz.prog Tryz.f9 (OpenSpec.ofChange Rows.transactionPortionSpec) false w b)
   (Rows.transactionPortionSpec.post enc Tryz.prog Tryz.f9 false true false false):=by
 refine returnsInHanded_of_change_and (C:=Tryz.checked) (X:=λ w _=>laidMetH Tryz.prog Ip w) (λ _ _ _ hh h=>h.of_heap hh) own d (by kernel_rfl) Tryz.func9
  (ChangeSpec.witness_shaped (enc:=enc) (C:=Tryz.checked) (os:=os) (X:=λ w _=>laidMetH Tryz.prog Ip w) false (World.doorLaid Tryz.prog 400 os) #[.agg #[Φu 0,Φu 0,Φu 0,Φu 0,Φu 0,Φu 0,Φu 0,Φu 0],.slice none 0 0,.slice none 0 0,Φu 0] 8 rfl (World.shaped_of_RefB (by kernel_rfl) (by kernel_rfl)) (by kernel_rfl) (by kernel_rfl) (by kernel_rfl) (Rp os _)) ?_
 intro a u b ds gs D g hW b9 x hL _;have B:=SY (SX hL);have c:∀(j:Nat) t v,Tryz.f9.params[j]?=some t->b[j]?=some v->Value.okWide Tryz.prog a .any u t v:=g;have y:=hW;obtain⟨p,q,a3,hV,rfl,c6,d4⟩:=hW;have hA:DataW.TrodAll enc Tryz.prog a 0 (λ _=>true) true Tryz.f9.params.toList b.toList ds p:=a3;have f:(DataW.weightsEach Tryz.prog (Tryz.f9.params.toList++Rows.transactionPortionSpec.plain.varTypes Tryz.prog) (ds++gs)).all (·<=reachBytes)=true:=x;have b1:=hA;obtain⟨rfl,rfl⟩:=trodVars_none hV;rw[Tryz.params9]at hA c f;obtain⟨v0,c3,d0,c2,p0,q0,a5,rfl,rfl,h0,r0⟩:=trodAll_cons hA;obtain⟨v1,c1,d1,c7,p1,q1,rfl,rfl,rfl,h1,r1⟩:=trodAll_cons r0;obtain⟨v2,c9,d2,c4,p2,q2,rfl,rfl,rfl,h2,r2⟩:=trodAll_cons r1;obtain⟨v3,c8,d3,c5,p3,q3,rfl,rfl,rfl,h3,r3⟩:=trodAll_cons r2;obtain⟨rfl,rfl,rfl⟩:=trodAll_nil r3;obtain rfl:b=#[v0,v1,v2,v3]:=by cases b;simp_all
 have b2:=c 0 23 v0 rfl rfl;have w0:=jW (i:=0) f rfl rfl;obtain⟨P,rfl,-⟩:=Fe Tryz.underlying23 b2;obtain⟨y0,b4,s,r,c0,l,o,A,m,k⟩:=LR Zw h0 w0;obtain rfl:P=⟨_⟩:=aak Array.mk b4;have T:=c 1 24 v1 rfl rfl;have w1:=jW (i:=1) f rfl rfl;obtain⟨Q,Z,b7,rfl⟩:=okWide_slice Tryz.underlying24 T;obtain⟨y1,b5,a8,a9,F,Y⟩:=LR Wl h1 w1;obtain⟨rfl,rfl,rfl⟩:Q=b5/\Z=a8/\b7=a9:=by simpa[Value.cells]using F
 have b6:=c 2 25 v2 rfl rfl;have w2:=jW (i:=2) f rfl rfl;obtain⟨R,a1,a6,rfl⟩:=okWide_slice Tryz.underlying25 b6;obtain⟨y2,b0,a4,a0,a2,E⟩:=LR aou h2 w2;obtain⟨rfl,rfl,rfl⟩:R=b0/\a1=a4/\a6=a0:=by simpa[Value.cells]using a2
 have G:=c 3 22 v3 rfl rfl;have w3:=jW (i:=3) f rfl rfl;obtain⟨x3,rfl⟩:=okWide_int Tryz.underlying22 G;obtain⟨y3,b8,a7⟩:=LR aow h3 w3;obtain rfl:x3=y3.n:=by simpa[Value.cells]using b8
 refine(Ro (aoZ B Y E s r l o A m k a7) (Im a)).mono λ e W' ⟨he,hb⟩=>?_;subst he;exact⟨_,rfl,BH (pa:=_) (pv:=[]) y (λ _ _ _=>trodAll_mk1 (shut_bool Tryz.underlying4 _))
  (λ sp b3=>AN sps b1 (λ z K=>hb.same (y.lt z (by simpa using K))) (λ z K=>b3 z (by simpa using K))) (λ _ _=>rfl) rfl hb (ok_one (by kernel_rfl) rfl (okWide_bool_mk Tryz.underlying4 _))⟩
theorem said:Rows.TransactionPortionSaid:=
 OpenClaim.holds_of_wide 9 Tryz.f9 rfl rfl rfl rfl rfl rfl rfl ⟨rfl,rfl,rfl,rfl,rfl⟩ rfl rfl rfl rfl rfl (by kernel_rfl) Tryz.func9 aph
  (aab (by kernel_rfl)) (by unfold Func.isWrapper;first |(rw[if_pos (by decide+kernel)];kernel_rfl) |(rw[if_neg (by decide+kernel)];exact⟨rfl,rfl⟩))
  (λ c a H b _=>lifted c a H b)
end Go.Proofs.YtnkineaffgkicaaGreatDoor.transactionPortion
