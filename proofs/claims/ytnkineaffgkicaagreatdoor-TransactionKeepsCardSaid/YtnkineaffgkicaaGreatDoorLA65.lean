/- A part of the proof. -/
import Derived.Test.YtnkineaffgkicaaGreatDoorH32
set_option maxHeartbeats 0
set_option maxRecDepth 100000
set_option linter.unusedVariables false
set_option linter.defProp false
set_option linter.unusedSectionVars false
set_option linter.unusedSimpArgs false
namespace Go.Vc
open Go Go.Shelf Go.Proofs
def aoT {a:List eC}(h:tb a=0):(∀t∈a,kB t=false)/\(∀t∈a,∀f∈t.sch.fks,fB a t f=false)/\∀t∈a,∀c∈t.sch.csts,cB t c=false:=by
 unfold tb at h;split at h
 .cases h
 rename_i e;split at h
 .cases h
 rename_i d;split at h
 .cases h
 rename_i g;simp only[abZ,abj]at e d g;exact⟨λ t b=>by simpa using e t b,λ t b f i=>by simpa using d t b f i,λ t b c j=>by simpa using g t b c j⟩
def aoU {D:Db}(h:aeL D=[CU,LN]){x:ByteArray}(b:x=CU\/x=LN):0<=cO x D.tabs/\cO x D.tabs<D.tabs.length:=by
 have a:=Zb h;rcases b with rfl | rfl
 .have:=aoq h (j:=0) (by omega);rw[an6 h,if_pos rfl]at this;omega
 .have:=aoq h (j:=1) (by omega);rw[an6 h,if_neg (by decide)]at this;omega
def nd0 {n:Nat}(h:decide (0<n)=false):decide (n=0)=true:=by simp at h⊢;omega
def aoS {x0 x1 x2 x3 x4 x5 x6 x7:Int}{H:Heap}{A B:D'}{n c m d:Nat}{l:List U9}{k:List W8}(L:mr H)(hs:Sl H A n c l)(hk:Sl H B m d k)(h0:ae .u16 x0)(h1:ae .u16 x1)(h3:ae .u16 x3)(h4:ae .u16 x4)(h5:ae .u16 x5)(h6:ae .u16 x6)(h7:ae .u16 x7):
  ZB 4 [.agg ⟨[Φu x0,Φu x1,Φu x2,Φu x3,Φu x4,Φu x5,Φu x6,Φu x7]⟩,.slice A n c,.slice B m d] H fg (λ r _=>r=true):=by
 refine ΦK 0 (aj [30,51,65,89,107,111] [(14,[2,4,6,8,10,12,15,16,18,20,22,24,26,28,36,38,42,44,31,33,35,41,47,49,50,52,0]),(20,[2,4,6,8,10,13,15,16,0])] [(5,[ag 34]),(11,[ag 58]),(18,[ag 97])]) (λ a=>ΦF Yq [.int .u16 x0,.int .u16 x1,.int .u16 x2,.int .u16 x3,.int .u16 x4,.int .u16 x5,.int .u16 x6,.int .u16 x7] 0 8 λ b e f g h i j k=>C aoM 21 [ΦG [.int .u16 b,.int .u16 e,.int .u16 f,.int .u16 g,.int .u16 h,.int .u16 i,.int .u16 j,.int .u16 k],S A n c,S B m d] H λ l o p q r s t u v w x y z a0 a1 a2 a3 a4 a5 a6 a7 a8 a9 b0 b1 b2 b3 b4 b5=>ΦQ (!b5) (C ZO 17 [] l (λ b6 b7=>a b7 b6)) (W ZE l (λ b6=>b6 0 l) (λ b6 b7 b8 b9=>J (b9<O a3) (ΦX a2 b9 a3 (ΦE XM b8 a2 (N b9*6) (λ c0 c1 c2 c3 c4 c5 c6 c7 c8 c9 d0 d1 d2 d3 d4 d5=>C ZT 14 [ΦG [ΦT c0,S c1 c2 c3,S c4 c5 c6,S c7 c8 c9,S d0 d1 d2,S d3 d4 d5]] b8 λ d6 d7 d8 d9=>let e0:=λ e0=>W ZE e0 (λ e1=>e1 0 e0) λ e1 e2 e3 e4=>let e5:=λ(e5:Int) e6 e7 e8=>ΦR (e5+1)/\e6 (e5+1) e7/\e8 (e5+1)<e8 e5;J (e4<O c8) (ΦX c7 e4 c8 (ΦE Xu e3 c7 (N e4*3) (λ e6 e7 e8 e9 f0 f1 f2=>C ZP 16 [ΦG [I a0,I a1,S a2 a3 a4,I a5,S a6 a7 a8,S a9 b0 b1],ΦT e9] e3 λ f3 f4=>J (f4<0) (a false f3) (J (O a3<=f4) (a false f3) (ΦX a2 f4 a3 (ΦE XM f3 a2 (N f4*6) (λ f5 f6 f7 f8 f9 g0 g1 g2 g3 g4 g5 g6 g7 g8 g9 h0=>C ZT 14 [ΦG [ΦT f5,S f6 f7 f8,S f9 g0 g1,S g2 g3 g4,S g5 g6 g7,S g8 g9 h0]] f3 λ h1 h2 h3 h4=>C ZT 23 [S e6 e7 e8] h1 λ h5 h6 h7 h8=>C ZT 23 [S f0 f1 f2] h5 λ h9 i0 i1 i2=>C ZO 24 [S d7 d8 d9,S h2 h3 h4,S h6 h7 h8,S i0 i1 i2] h9 λ i3 i4=>ΦQ (!i4) (a false i3) (e5 e4 e1 i3 e2)))))))) (W ZE e3 (λ e6=>e6 0 e3) (λ e6 e7 e8 e9=>J (e9<O d1) (ΦX d0 e9 d1 (ΦE Xv e8 d0 (N e9*2) (λ f0 f1 f2 f3=>C ZT 23 [S f1 f2 f3] e8 λ f4 f5 f6 f7=>C ZO 25 [S d7 d8 d9,I f0,S f5 f6 f7] f4 λ f8 f9=>ΦQ (!f9) (a false f8) (e5 e9 e6 f8 e7)))) (e5 b9 b6 e8 b7)));J (0<O c5) (C ZT 23 [S c4 c5 c6] d6 (λ e1 e2 e3 e4=>C ZO 22 [S d7 d8 d9,S e2 e3 e4] e1 λ e5 e6=>ΦQ (!e6) (a false e5) (e0 e5))) (e0 d6)))) (C ZO 17 [] b8 (λ c0 c1=>a c1 c0))))) ?_;dsimp only[PL,aQ,aR,aW,eQ,C,ΦE,ΦF,N,ΦQ,ΦR,W,ΦX,O,J];refine⟨_,_,_,_,_,_,_,_,rfl,_,aoB L hs hk h0 h1 h3 h4 h5 h6 h7,?_⟩;rintro H1 l1 e3 e5 X xn xc d7 Y hn hc Z cn cc na ia Xa xa ca ha Ya p1 q1 Za p2 q2 E en ec ok ⟨D,es,hP,hD,rfl,he,hl,hg,U,rfl⟩;obtain⟨D2,hN,rfl,b0⟩:=aoI U;obtain⟨-,u,a0⟩:=hP.WT hl hg (by decide);have tl:=L.mono l1;refine⟨λ _=>⟨_,Il tl,λ _ _ _ h=>h⟩,λ h=>?_⟩;have h:=aab (np h);obtain⟨s1,s2⟩:=a0 h;obtain rfl:=b0 h;obtain⟨f1,f2⟩:=Re h;have u:Ow (mZ D es).tabs:=u f1;have b5:tb (mZ D es).tabs=0:=by
  unfold pd Bv at h;rw[if_neg (by omega),if_neg (by simp[f1]),if_neg (by simp[f2])]at h;exact h
 obtain⟨ck,cf,F⟩:=aoT b5;have G:=s2.fk;have b7:=s2.nm;have hs:=hN.tabs;have b1:=hs.len;have b2:=hs.bn;clear b5 f1 f2 s1 s2 a0 U hP hD he b0 L;generalize d9:mZ D es=D2 at*;have c9:=Zb b7;refine⟨λ i _=>0<=i/\i<=xa,λ i=>xa-i.toNat,u' (by omega),?_⟩;rintro H2 l2 i ⟨i0,i1⟩;dsimp only;refine⟨λ R=>?_,λ _=>⟨_,Il (tl.mono l2),λ _ _ _ h=>h⟩⟩;have R:=aab R;obtain⟨hi,hA,_,b9,nm,A1,m1,c1,A2,m2,c2,A3,m3,c3,A4,m4,c4,A5,m5,c5,rfl,M⟩:=hs.at l2 i0 R;have o:=aan hi;have ok:=u.ok _ o;have k1:=u.key _ o;have kf:=u.fk _ o;have kc:=u.cst _ o;have ck:=ck _ o;have cf:=cf _ o;have F:=F _ o;have G:=G _ o;generalize D2.tabs[i.toNat]=t at*;have v1:=M.vs.len;have w1:=M.sch.key.len;have w2:=M.sch.fks.len;have w3:=M.sch.csts.len;have y2:=M.sch.fks.bn;have y3:=M.sch.csts.bn;refine⟨hA,i0,R,_,_,_,_,_,_,_,_,_,_,_,_,_,_,_,_,b9,_,Ab M ok.2.1 (by have:=ok.2.2;omega),?_⟩;rintro H3 l3 C1 u1 d0 v;refine⟨λ a2=>?_,λ c6=>?_⟩
 focus
  have a2:=aab a2;refine⟨_,jg (M.sch.key.mono l3) k1.pos,?_⟩;rintro H4 l4 Q q y U;have q1:=U.len;refine⟨_,JB (v.mono l4) U (by rw[<-q1];exact k1.fit.clen) (by have:=v.len;have:=k1.fit.Bp;omega) k1.fit.di,?_⟩;rintro H5 l5 _ ⟨g,g1,g2,rfl⟩;have e:(ka g).length=(eJ (dR t) (QV t.sch.key)).length:=by rw[Hw g1 g2 (lV _ _) (fE _ _)];rfl
  rw[e];have kk:decide (0<(eJ (dR t) (QV t.sch.key)).length)=false:=by
   unfold kB at ck;rw[aau (show 0<t.sch.key.length by omega),aaY]at ck;exact ck
  refine⟨λ V=>(by rw[nd0 kk]at V;cases V),λ _=>?_⟩;have b4:=aa l4 l5
 rotate_left
 focus
  have b4:=ah H3
 all_goals
  refine⟨λ i _=>0<=i/\i<=m3,λ i=>m3-i.toNat,u' (by omega),?_⟩;rintro H6 l6 j ⟨j0,j1⟩;dsimp only;have T:=aa b4 l6;refine⟨λ b=>?_,λ _=>?_⟩
  .have b:=aab b;obtain⟨hj,hB,_,a6,E1,p1,z1,E2,p2,z2,rfl,u1,u2,u3⟩:=M.sch.fks.at (aa l3 T) j0 b;have x:=aan hj;obtain⟨g1,g2⟩:=kf _ x;have cf:=cf _ x;have G:=G _ x;generalize t.sch.fks[j.toNat]=f at*;have a7:=aa l3 T;refine⟨hB,j0,b,_,_,_,_,_,_,_,a6,_,qY (hs.mono (aa l2 a7)),?_⟩;rintro H7 l7 _ rfl;obtain⟨r0,r1⟩:=aoU b7 G;have c0:=aa a7 l7;obtain⟨hp,hC,_,b8,d1,d2,e7,e8,c7,d8,d5,f0,e9,f3,d4,e1,d3,e2,e0,d6,rfl,b6⟩:=hs.at (aa l2 c0) r0 (by omega);have a1:vS D2.tabs f.table=dR D2.tabs[(cO f.table D2.tabs).toNat]:=by
    rw[vS,if_neg (by omega),aai hp];rfl
   have b3:=u.ok _ (aan hp);rw[a1]at g2;unfold fB at cf;rw[a1]at cf;generalize D2.tabs[(cO f.table D2.tabs).toNat]=t' at*;generalize cO f.table D2.tabs=kk at*;have v2:=b6.vs.len;refine⟨λ h=>absurd (aab h) (by omega),λ _=>⟨λ h=>absurd (aab h) (by omega),λ _=>⟨hC,r0,by omega,_,_,_,_,_,_,_,_,_,_,_,_,_,_,_,_,b8,_,Ab b6 b3.2.1 (by have:=b3.2.2;omega),?_⟩⟩⟩;rintro H8 l8 P p z hP;have a5:=aa l7 l8;refine⟨_,jg (u1.mono a5) g1.pos,?_⟩;rintro H9 l9 Q q y U;refine⟨_,jg (u3.mono (aa a5 l9)) g2.pos,?_⟩;rintro e4 a9 a s w hS;have a3:=aa l9 a9;have a4:=aa a5 a3;refine⟨_,QU (tl.mono (aa l2 (aa a7 a4))) (v.mono (aa T a4)) (hP.mono a3) (U.mono a9) hS g1.fit g2.fit,?_⟩;rintro c8 e6 _ rfl;exact⟨λ V=>(by rw[nd0 cf]at V;cases V),λ _=>u' ⟨u' (by omega),by omega⟩⟩
  .refine⟨λ i _=>0<=i/\i<=m4,λ i=>m4-i.toNat,u' (by omega),?_⟩;rintro H7 l7 j ⟨j0,j1⟩;dsimp only;have a8:=aa T l7;refine⟨λ b=>?_,λ _=>u' ⟨u' (by omega),by omega⟩⟩;have b:=aab b;obtain⟨hj,hB,_,a6,E1,p1,z1,rfl,u1,u2⟩:=M.sch.csts.at (aa l3 a8) j0 b;have x:=aan hj;have g1:=kc _ x;have F:=F _ x;unfold cB at F;generalize t.sch.csts[j.toNat]=f at*;refine⟨hB,j0,b,_,_,_,_,a6,_,jg u2 g1.pos,?_⟩;rintro H8 l8 Q q y U;refine⟨_,vQ (tl.mono (aa l2 (aa l3 (aa a8 l8)))) (v.mono (aa a8 l8)) U g1.fit,?_⟩;rintro H9 l9 _ rfl;exact⟨λ V=>(by rw[nd0 F]at V;cases V),λ _=>u' ⟨u' (by omega),by omega⟩⟩
end Go.Vc
