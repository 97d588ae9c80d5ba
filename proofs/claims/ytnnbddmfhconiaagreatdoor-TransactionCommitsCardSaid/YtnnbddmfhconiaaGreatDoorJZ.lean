/- TransactionCommits: a sequence of commits gives exactly the databases and errors of the definition. Conditions: the tables of package strconv and math/bits stand as the program's text lays them (tied by the card). -/
import Derived.Test.YtnnbddmfhconiaaGreatDoorG35
import Derived.Test.YtnnbddmfhconiaaGreatDoorG36
import Derived.Test.YtnnbddmfhconiaaGreatDoorJF4
import Derived.Test.YtnnbddmfhconiaaGreatDoorJF5
import Derived.Test.YtnnbddmfhconiaaGreatDoorTie
import Derived.SevenTiedAt
set_option maxHeartbeats 16000000
set_option maxRecDepth 100000
set_option linter.unusedVariables false
set_option linter.defProp false
namespace Go.Proofs.YtnnbddmfhconiaaGreatDoor.transactionCommits
open Go Go.Vc Go.RowKit Go.WideShapes Go.ChangeShapes
theorem sps:∀t∈Tryz.f3.params.toList,BG Tryz.prog t:=by
 rw[Tryz.params3];exact(List.forall_mem_cons.2 ⟨Zw.sp,(List.forall_mem_cons.2 ⟨Wl.sp,λ _ h=>by cases h⟩)⟩)
theorem own:ownKnob Tryz.prog.godebug=none:=by kernel_rfl
theorem lifted (os:Os)(c:os.Started)(H:Type)(enc:TypeId×Value->H):
  ReturnsInHanded {} Tryz.checked os 3 .any (λ w b=>(Rows.transactionCommitsSpec.pre enc Tryz.prog Tryz.f3 Rows.transactionCommitsRow.domain false w b/\laidMetH Tryz.prog Ip w)/\sizedMet enc Tryz.prog Tryz.f3 (OpenSpec.ofChange Rows.transactionCommitsSpec) false w b)
   (Rows.transactionCommitsSpec.post enc Tryz.prog Tryz.f3 false true false false):=by
 refine returnsInHanded_of_change_and (C:=Tryz.checked) (X:=λ w _=>laidMetH Tryz.prog Ip w) (λ _ _ _ hh h=>h.of_heap hh) own c (by kernel_rfl) Tryz.func3
  (ChangeSpec.witness_shaped (enc:=enc) (C:=Tryz.checked) (os:=os) (X:=λ w _=>laidMetH Tryz.prog Ip w) false (World.doorLaid Tryz.prog 400 os) #[.agg #[Φu 0,Φu 0,Φu 0,Φu 0,Φu 0,Φu 0,Φu 0,Φu 0],.slice none 0 0] 8 rfl (World.shaped_of_RefB (by kernel_rfl) (by kernel_rfl)) (by kernel_rfl) (by kernel_rfl) (by kernel_rfl) (Rp os _)) ?_
 intro a s b ds gs B g hW a7 u hL _;have A:=SY (SX hL);have d:∀(j:Nat) t v,Tryz.f3.params[j]?=some t->b[j]?=some v->Value.okWide Tryz.prog a .any s t v:=g;have x:=hW;obtain⟨p,q,R,hV,rfl,b2,b4⟩:=hW;have T:DataW.TrodAll enc Tryz.prog a 0 (λ _=>true) true Tryz.f3.params.toList b.toList ds p:=R;have f:(DataW.weightsEach Tryz.prog (Tryz.f3.params.toList++Rows.transactionCommitsSpec.plain.varTypes Tryz.prog) (ds++gs)).all (·<=reachBytes)=true:=u;have a1:=T;obtain⟨rfl,rfl⟩:=trodVars_none hV;rw[Tryz.params3]at T d f;obtain⟨v0,b1,d0,b0,p0,q0,Y,rfl,rfl,h0,r0⟩:=trodAll_cons T;obtain⟨v1,a9,d1,b3,p1,q1,rfl,rfl,rfl,h1,r1⟩:=trodAll_cons r0;obtain⟨rfl,rfl,rfl⟩:=trodAll_nil r1;obtain rfl:b=#[v0,v1]:=by cases b;simp_all
 have a2:=d 0 23 v0 rfl rfl;have w0:=jW (i:=0) f rfl rfl;obtain⟨F,rfl,-⟩:=Fe Tryz.underlying23 a2;obtain⟨y0,a4,r,o,a8,l,n,y,m,k⟩:=LR Zw h0 w0;obtain rfl:F=⟨_⟩:=aak Array.mk a4;have K:=d 1 24 v1 rfl rfl;have w1:=jW (i:=1) f rfl rfl;obtain⟨G,Q,a6,rfl⟩:=okWide_slice Tryz.underlying24 K;obtain⟨y1,a5,Z,a0,D,P⟩:=LR Wl h1 w1;obtain⟨rfl,rfl,rfl⟩:G=a5/\Q=Z/\a6=a0:=by simpa[Value.cells]using D
 refine(Ro (Rl A P r o l n y m k) (Im a)).mono λ e W' ⟨he,hb⟩=>?_;subst he;exact⟨_,rfl,BH (pa:=_) (pv:=[]) x (λ _ _ _=>trodAll_mk1 (shut_bool Tryz.underlying4 _))
  (λ sp a3=>AN sps a1 (λ z E=>hb.same (x.lt z (by simpa using E))) (λ z E=>a3 z (by simpa using E))) (λ _ _=>rfl) rfl hb (ok_one (by kernel_rfl) rfl (okWide_bool_mk Tryz.underlying4 _))⟩
theorem said:Rows.TransactionCommitsSaid:=
 OpenClaim.holds_of_wide 3 Tryz.f3 rfl rfl rfl rfl rfl rfl rfl ⟨rfl,rfl,rfl,rfl,rfl⟩ rfl rfl rfl rfl rfl (by kernel_rfl) Tryz.func3 UI
  (aab (by kernel_rfl)) (by unfold Func.isWrapper;first |(rw[if_pos (by decide+kernel)];kernel_rfl) |(rw[if_neg (by decide+kernel)];exact⟨rfl,rfl⟩))
  (λ c a H b _=>lifted c a H b)
theorem proved:Rows.TransactionCommitsCardSaid:=
 Claim7.holds_tied_plain_at .later [] [.data,.data,.data] true Rows.transactionCommitsCard.stood.harness Rows.transactionCommitsCard.stood.looks
  said (λ _ h=>by cases h) (by kernel_rfl) (λ _ h=>by cases h) transactionCommits_row_tie rfl ⟨rfl,rfl⟩ (by kernel_rfl) rfl
  (λ f g e b=>by
   obtain rfl:f=3:=abC ((show Tryz.prog.funcNamed "annalist/annalistlaw25.TransactionCommits"=some 3 by kernel_rfl).symm.trans e)|>.symm
   obtain rfl:g=Tryz.f3:=(abC (Tryz.func3.symm.trans b)).symm
   exact⟨by kernel_rfl,λ j t c=>by
    rw[Tryz.params3]at c
    have d:t∈[23,24]:=by simpa using Array.mem_of_getElem? c
    have a:(([23,24]:List TypeId).all λ u=> !Tryz.prog.wantsStandIn u)=true:=by kernel_rfl
    exact(show Tryz.prog.wantsStandIn t=false by simpa using aaG.1 a t d)⟩)
  (show false=_ from c8)
#print axioms proved
end Go.Proofs.YtnnbddmfhconiaaGreatDoor.transactionCommits
