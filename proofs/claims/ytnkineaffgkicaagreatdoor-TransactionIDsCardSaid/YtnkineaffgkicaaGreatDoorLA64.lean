/- A part of the proof. -/
import Derived.Test.YtnkineaffgkicaaGreatDoorH32
set_option maxHeartbeats 0
set_option maxRecDepth 100000
set_option linter.unusedVariables false
set_option linter.defProp false
set_option linter.unusedSectionVars false
set_option linter.unusedSimpArgs false
namespace Go.Vc
open Go Go.Shelf Go.Proofs
section
variable {a b c:Int}{d e:List bR}{f:Nat}
def aoO (h:Suc a b c d e)(l:f<e.length)(i:f<d.length):V' a d[f] e[f]:=by
 obtain⟨g,o,rfl,k,m⟩:=h;rw[aaI (by simpa using i),List.getElem_map];exact k _ (aan i)
def aoP (h:Suc a b c d e)(l:f<e.length)(i:d.length<=f):b<=e[f].id/\e[f].id<c/\e[f].rc=⟨a,1099511627776⟩:=by
 obtain⟨g,o,rfl,m,k⟩:=h;rw[abp (by simpa using i)];exact k _ (aan _)
def aoQ (h:Suc a b c d e):d.length<=e.length:=by
 obtain⟨g,j,rfl,i,f⟩:=h;simp
def aoN {x3 x4 x5 x6 x7:Int}{H:Heap}{A B:D'}{e m d:Nat}{l:List U9}{k:List W8}(p:mr H)(hs:Sl H A f e l)(hk:Sl H B m d k)(h0:ae .u16 a)(h1:ae .u16 b)(h3:ae .u16 x3)(h4:ae .u16 x4)(h5:ae .u16 x5)(h6:ae .u16 x6)(h7:ae .u16 x7):
  ZB 5 [.agg ⟨[Φu a,Φu b,Φu c,Φu x3,Φu x4,Φu x5,Φu x6,Φu x7]⟩,.slice A f e,.slice B m d] H fg (λ r _=>r=true):=by
 refine ΦK 0 (aj [29,41,142,171] [(17,[2,4,6,8,10,12,14,16,18,20,22,24,26,28,30,32,34,36,38,40,42,44,46,48,50,52,54,56,58,60,62,64,66,68,70,72,74,0])] [(5,[ag 33]),(14,[ag 66])]) (λ g=>ΦF Yq [.int .u16 a,.int .u16 b,.int .u16 c,.int .u16 x3,.int .u16 x4,.int .u16 x5,.int .u16 x6,.int .u16 x7] 0 8 λ h i j k l n o p=>C aoM 21 [ΦG [.int .u16 h,.int .u16 i,.int .u16 j,.int .u16 k,.int .u16 l,.int .u16 n,.int .u16 o,.int .u16 p],S A f e,S B m d] H λ q r s t u v w x y z a0 a1 a2 a3 a4 a5 a6 a7 a8 a9 b0 b1 b2 b3 b4 b5 b6 b7 b8=>ΦQ (!b8) (C ZO 17 [] q (λ b9 c0=>g c0 b9)) (W ZE q (λ b9=>b9 0 q) (λ b9 c0 c1 c2=>J (c2<O a6) (ΦX a5 c2 a6 (ΦE XM c1 a5 (N c2*6) (λ c3 c4 c5 c6 c7 c8 c9 d0 d1 d2 d3 d4 d5 d6 d7 d8=>C ZP 16 [ΦG [I r,I s,S t u v,I w,S x y z,S a0 a1 a2],ΦT c3] c1 λ d9 e0=>let e1:=λ(e1:Int) e2 e3 e4=>ΦR (e1+1)/\e2 (e1+1) e3/\e4 (e1+1)<e4 e1;let e2:=λ(e2:Int) e3 (e4 e5 e6:Int) e7 e8=>J (e2<s) (g false e3) (J (a4<=e2) (g false e3) (ΦR (r+1)/\ΦQ (!(decide (e4=r+1)&&decide (e5=1099511627776))) (g false e3) (J (0<e6) (ΦR (e6-1)/\ΦX d6 (e6-1) d7 (ΦE ZE e3 d6 (N (e6-1)*6+0) (λ e9=>J (e2<=e9) (g false e3) (e1 e6 e7 e3 e8)))) (e1 e6 e7 e3 e8))));let e3:=λ(e3 e4:Int) e5 (e6 e7 e8 e9 f0 f1:Int) f2 (f3 f4:Nat) f5 (f6 f7:Nat)(f8 f9 g0:Int) g1 g2=>V (e3=e4) (g false e5) (ΦQ (!(decide (e6=e7)&&decide (e8=e9))) (g false e5) (V (f0=f1) (g false e5) (C ZP 26 [S f2 f3 f4,S f5 f6 f7] e5 (λ g3 g4=>V (g4=0) (g false g3) (V (f8=f9) (V (f9=1099511627776) (g false g3) (ΦR (r+1)/\V (f8=r+1) (g false g3) (e1 g0 g1 g3 g2))) (e1 g0 g1 g3 g2))))));let e4:=J (O d7<O 0) (g false d9) (W ZE d9 (λ e4=>e4 0 d9) (λ e4 e5 e6 e7=>J (e7<O d7) (ΦX d6 e7 d7 (ΦE ZH e6 d6 (N e7*6) (λ e8 e9 f0 f1 f2 f3 f4 f5=>J (O 0<=e7) (e2 e8 e6 f4 f5 e7 e4 e5) (ΦX none e7 0 (ΦE ZH e6 none (N e7*6) (λ f6 f7 f8 f9 g0 g1 g2 g3=>e3 e8 f6 e6 f2 g0 f3 g1 f4 g2 e9 f0 f1 f7 f8 f9 f5 g3 e7 e4 e5)))))) (e1 c2 b9 e6 c0)));J (0<=e0) (J (e0<O u) (ΦX t e0 u (ΦE ZM d9 t (N e0*6+5) (λ e5 e6 e7=>J (O d7<O e6) (g false d9) (W ZE d9 (λ e8=>e8 0 d9) (λ e8 e9 f0 f1=>J (f1<O d7) (ΦX d6 f1 d7 (ΦE ZH f0 d6 (N f1*6) (λ f2 f3 f4 f5 f6 f7 f8 f9=>J (O e6<=f1) (e2 f2 f0 f8 f9 f1 e8 e9) (ΦX e5 f1 e6 (ΦE ZH f0 e5 (N f1*6) (λ g0 g1 g2 g3 g4 g5 g6 g7=>e3 f2 g0 f0 f6 g4 f7 g5 f8 g6 f3 f4 f5 g1 g2 g3 f9 g7 f1 e8 e9)))))) (e1 c2 b9 f0 c0)))))) e4) e4))) (C ZO 17 [] c1 (λ c3 c4=>g c4 c3))))) ?_;dsimp only[PL,aQ,aR,aW,eQ,C,ΦE,ΦF,N,ΦQ,ΦR,W,ΦX,O,V,J];refine⟨_,_,_,_,_,_,_,_,rfl,_,aoB p hs hk h0 h1 h3 h4 h5 h6 h7,?_⟩;rintro H1 l1 U d2 X xn xc c0 Y hn hc Z cn cc na ia Xa xa ca ha Ya p1 q1 Za p2 q2 E en ec ok ⟨D,es,hP,G,rfl,he,hl,hg,hQ,rfl⟩;obtain⟨D2,hN,rfl,a0⟩:=aoI hQ;obtain⟨-,-,L⟩:=hP.WT hl hg (by decide);refine⟨λ _=>⟨_,Il (p.mono l1),λ _ _ _ h=>h⟩,λ h=>?_⟩;have h:=aab (np h);obtain⟨s1,s2⟩:=L h;obtain rfl:=a0 h;have n0:=hP.di.n0;have n1:=hP.di.n1;have en:=G.now;have ei:=G.nid;have ej:=hN.nid;have b1:=hN.tabs.len;have b2:=hN.tabs.bn;have d1:=G.tabs.len;have b0:=Zb s2.nm;have a7:=Zb hP.nm;refine⟨λ i _=>0<=i/\i<=xa,λ i=>xa-i.toNat,u' (by omega),?_⟩;rintro H2 l2 i ⟨i0,i1⟩;dsimp only;refine⟨λ g=>?_,λ _=>⟨_,Il (p.mono (aa l1 l2)),λ _ _ _ h=>h⟩⟩;have g:=aab g;have hi:i.toNat<D.tabs.length:=by omega
 obtain⟨hj,hA,_,a4,nm,A1,m1,c1,A2,m2,c2,A3,m3,c3,A4,m4,c4,A5,w,c5,rfl,M⟩:=hN.tabs.at l2 i0 g;obtain⟨g1,g2⟩:=s1.tab i.toNat hi hj;have hf:cO nm D.tabs=i:=by
  have:=aoq hP.nm hi;rw[g1.name.symm.trans M.sch.name.symm]at this;omega
 have Q:=(s2.di.tab _ (aan hj)).2.2.2.1.lI;refine⟨hA,i0,g,_,_,_,_,_,_,_,_,_,_,_,_,_,_,_,_,a4,_,qY (G.tabs.mono l2),?_⟩;rintro H3 l3 _ rfl;rw[hf];refine⟨λ _=>⟨λ _=>?_,λ h=>absurd (aac h) (by omega)⟩,λ h=>absurd (aac h) (by omega)⟩;obtain⟨a9,hB,_,a1,b4,b5,d3,d4,a8,c6,b8,d6,d5,d7,b7,c8,b6,c9,c7,b9,rfl,T⟩:=G.tabs.at (aa l2 l3) i0 (by omega);have w1:=M.vs.len;have w2:=T.vs.len;have w3:=M.vs.bn;change Suc _ _ _ _ (mZ D es).tabs[i.toNat].vs at g2;have d0:(mZ D es).nid=(bJ D es).1.nid:=rfl;generalize (mZ D es).tabs[i.toNat]=s at*;generalize D.tabs[i.toNat]=t at*;have sl:=aoQ g2;refine⟨hB,i0,by omega,_,_,_,a1.cy (k:=5) rfl,λ h=>absurd (aab h) (by omega),λ _=>⟨λ j _=>0<=j/\j<=w,λ j=>w-j.toNat,u' (by omega),?_⟩⟩;rintro H4 l4 j ⟨j0,j1⟩;dsimp only;have go:ae .i64 (j+1)/\(0<=j+1/\j+1<=w)/\w-(j+1).toNat<w-j.toNat\/¬j<w:=by
  by_cases h:j<w
  .exact .inl (u' ⟨u' (by omega),by omega⟩)
  .exact .inr h
 refine⟨λ g=>?_,λ _=>u' ⟨u' (by omega),by omega⟩⟩;have g:=aab g;have go:=go.resolve_right (λ h=>h g);obtain⟨hv,hC,_,a6,V1,v1,u1,rfl,r1,y,r2,r3,r4,r5⟩:=M.vs.at (aa l3 l4) j0 g;refine⟨hC,j0,g,_,_,_,_,_,_,_,_,a6,ΦD (λ a3=>?_) λ a3=>?_⟩
 .obtain⟨z1,z2,z3⟩:=aoP g2 hv (by omega);have R:∀q:Nat,q+1=j.toNat->∀hq:q<s.vs.length,s.vs[q].id<s.vs[j.toNat].id:=λ q hq a2=>aaX.1 Q q j.toNat a2 hv (by omega);have zl:s.vs[j.toNat].rc.lo=U+1:=by rw[z3];show D.now+1=_;omega
  have zh:s.vs[j.toNat].rc.hi=1099511627776:=by rw[z3]
  generalize s.vs[j.toNat]=v at*;refine⟨λ h=>absurd (aab h) (by omega),λ _=>⟨λ h=>absurd (aab h) (by omega),λ _=>u' ⟨λ h=>?_,λ _=>⟨λ hp=>?_,λ _=>go⟩⟩⟩⟩
  .rw[zl,zh]at h;simp at h
  .have hp:=aab hp;obtain⟨hq,z,_,x,V2,v2,u2,rfl,-⟩:=M.vs.at (i:=j-1) (aa l3 l4) (by omega) (by omega);have:=R (j-1).toNat (by omega) hq;exact u' ⟨z,y' ⟨_,x.cy (k:=0) rfl,λ h=>absurd (aab h) (by omega),λ _=>go⟩⟩
 .obtain⟨a5,z,_,x,V2,v2,u2,rfl,b3,u,-⟩:=T.vs.at l4 j0 (by omega);have F:=aoO g2 hv a5;obtain⟨e1,e2,e3,e4⟩:=F.id;have P:s.vs[j.toNat].rc.hi=t.vs[j.toNat].rc.hi\/t.vs[j.toNat].rc.hi=1099511627776/\s.vs[j.toNat].rc.hi=U+1:=by
   rcases F with h |⟨h1,h2⟩
   .exact .inl (by rw[h])
   .exact .inr ⟨h1,by rw[h2];show D.now+1=_;omega⟩
  clear F g2 Q;generalize s.vs[j.toNat]=v at*;generalize t.vs[j.toNat]=o at*;refine⟨z,j0,by omega,_,_,_,_,_,_,_,_,x,λ h=>absurd (aac (oL h)) (by omega),λ _=>⟨λ h=>by rw[e4]at h;simp at h,λ _=>⟨λ h=>absurd (aac (oL h)) (by omega),λ _=>⟨_,fv y (u.mono (ah _)),?_⟩⟩⟩⟩;rintro H5 l5 _ rfl;refine⟨λ h=>absurd (aac (oL h)) (by rw[e3,aD.refl];simp),λ _=>⟨λ h=>?_,λ _=>go⟩⟩;have h:=aac (oL h);rcases P with P |⟨P,e6⟩
  .exact absurd P h
  .exact⟨λ h=>absurd P (aac (oL h)),λ _=>u' ⟨λ h=>absurd e6 (aac (oL h)),λ _=>go⟩⟩
end
end Go.Vc
