/- A part of the proof. -/
import Derived.Test.YtnkineaffgkicaaGreatDoorH32
set_option maxHeartbeats 0
set_option maxRecDepth 100000
set_option linter.unusedVariables false
set_option linter.defProp false
set_option linter.unusedSectionVars false
set_option linter.unusedSimpArgs false
namespace Go.Vc
open Go Go.Shelf Go.Proofs
section
section
variable {a:Heap}{b:D'}{g h:Nat}{o:List cz}
def ug {B:D'}{m d:Nat}{p:List cz}(t:Sl a b g h o)(s:Sl a B m d p):
  ZB 34 [.slice b g h,.slice B m d] a fg (λ r _=>r=decide (o=p)):=by
 refine ΦK 0 (aj [] [(6,[2,4,6,8,10,12,14,16,18,0])] [(4,[ag 5])]) (λ c=>V (O g=O m) (c false a) (W ZE a (λ d=>d 0 a) (λ d e f h=>J (h<O g) (ΦX b h g (ΦE Xq f b (N h*3) (λ i j k=>ΦX B h m (ΦE Xq f B (N h*3) (λ l n o=>ΦQ (!(decide (i=l)&&(decide (j=n)&&decide (k=o)))) (c false f) (ΦR (h+1)/\d (h+1) f/\e (h+1)<e h)))))) (c true f)))) ?_;dsimp only[PL,aW,eQ,ΦE,N,ΦQ,ΦR,W,ΦX,O,V,J];have I:=t.bn;have z:=t.len;have M:=s.bn;have y:=s.len;refine⟨λ e=>?_,λ e=>?_⟩
 .grind
 have e:g=m:=by grind
 subst e;refine⟨λ i _=>0<=i/\i<=g/\decide (o=p)=decide (o.drop i.toNat=p.drop i.toNat),λ i=>g-i.toNat,P' rfl,?_⟩;rintro Q q i ⟨j,L,v⟩;refine⟨λ f=>?_,λ k=>?_⟩
 .have f:=aab f;obtain⟨C,x,_,G,rfl,-⟩:=t.at q j f;obtain⟨w,F,_,E,rfl,-⟩:=s.at q j f;rw[ak j C,ak j w]at v;refine⟨x,j,f,_,_,_,G,F,j,f,_,_,_,E,λ P=>?_,λ D=>u' ⟨y' ?_,by grind⟩⟩
  .grind
  .have:o[i.toNat]=p[i.toNat]:=by
    generalize o[i.toNat]=u at D;cases u;simp_all
   grind
 .rw[ai (aac k) z,ai (aac k) y]at v;grind
end
def aoD {x0 x1 x2 x3 x4 x5 x6 x7 p:Int}{H:Heap}{A B:D'}{n c m d:Nat}{l:List U9}{k:List W8}(b:mr H)(hs:Sl H A n c l)(hk:Sl H B m d k)(h0:ae .u16 x0)(h1:ae .u16 x1)(h3:ae .u16 x3)(h4:ae .u16 x4)(h5:ae .u16 x5)(h6:ae .u16 x6)(h7:ae .u16 x7)(hp:ae .u16 p):
  ZB 8 [.agg ⟨[Φu x0,Φu x1,Φu x2,Φu x3,Φu x4,Φu x5,Φu x6,Φu x7]⟩,.slice A n c,.slice B m d,Φu p] H fg (λ r _=>r=true):=by
 refine ΦK 0 (aj [47,72,97,100] [(8,[2,4,6,8,10,12,15,16,18,20,22,24,26,34,38,40,42,29,30,33,37,45,47,48,50,0])] [(4,[ag 39])]) (λ a=>ΦF Yq [.int .u16 x0,.int .u16 x1,.int .u16 x2,.int .u16 x3,.int .u16 x4,.int .u16 x5,.int .u16 x6,.int .u16 x7] 0 8 λ b e f g h i j k=>C aoM 21 [ΦG [.int .u16 b,.int .u16 e,.int .u16 f,.int .u16 g,.int .u16 h,.int .u16 i,.int .u16 j,.int .u16 k],S A n c,S B m d] H λ l o q r s t u v w x y z a0 a1 a2 a3 a4 a5 a6 a7 a8 a9 b0 b1 b2 b3 b4 b5 b6=>∃b7:Int,IntKind.wrap IntKind.i64 p=b7/\ΦR (o+1)/\o+1≠0/\W ZE l (λ b8=>b8 0 l) λ b8 b9 c0 c1=>let c2:=λ c2=>C ZO 17 [] c2 λ c3 c4=>ΦQ c4 (ΦQ (!b6) (a true c3) (ΦR (o+1)/\a (decide (a1=o+1)) c3)) (a false c3);J (c1<O s) (ΦX r c1 s (ΦE XM c0 r (N c1*6) (λ c3 c4 c5 c6 c7 c8 c9 d0 d1 d2 d3 d4 d5 d6 d7 d8=>C ZP 16 [ΦG [I a1,I a2,S a3 a4 a5,I a6,S a7 a8 a9,S b0 b1 b2],ΦT c3] c0 λ d9 e0=>ΦQ (!b6) (c2 d9) (J (e0<0) (a false d9) (J (O a4<=e0) (a false d9) (ΦX a3 e0 a4 (ΦE ZM d9 a3 (N e0*6+5) (λ e1 e2 e3=>C ZT 32 [S e1 e2 e3,I (Int.tmod b7 (o+1))] d9 λ e4 e5 e6 e7=>C ZT 32 [S d6 d7 d8,I (Int.tmod b7 (o+1))] e4 λ e8 e9 f0 f1=>C ZO 13 [S e5 e6 e7,S e9 f0 f1] e8 λ f2 f3=>ΦQ (!f3) (a false f2) (ΦX a3 e0 a4 (ΦE XP f2 a3 (N e0*6+0) (λ f4 f5 f6 f7 f8 f9 g0 g1 g2 g3 g4 g5 g6=>C YK 33 [ΦG [ΦT f4,S f5 f6 f7,S f8 f9 g0,S g1 g2 g3,S g4 g5 g6],I (Int.tmod b7 (o+1))] f2 λ g7 g8 g9 h0 h1 h2 h3=>C YK 33 [ΦG [ΦT c3,S c4 c5 c6,S c7 c8 c9,S d0 d1 d2,S d3 d4 d5],I (Int.tmod b7 (o+1))] g7 λ h4 h5 h6 h7 h8 h9 i0=>C ZO 34 [S h0 h1 h2,S h7 h8 h9] h4 λ i1 i2=>ΦQ (!i2) (a false i1) (ΦR (c1+1)/\b8 (c1+1) i1/\b9 (c1+1)<b9 c1)))))))))))) (c2 c0)) ?_;dsimp only[PL,aQ,aR,aW,eQ,C,ΦE,ΦF,N,ΦQ,ΦR,W,ΦX,O,J];refine⟨_,_,_,_,_,_,_,_,rfl,_,aoB b hs hk h0 h1 h3 h4 h5 h6 h7,?_⟩;rintro H1 l1 a d5 X xn xc d4 Y hn hc Z cn cc na ia Xa xa ca ha Ya p1 q1 Za p2 q2 E en ec ok ⟨D,f,y,U,rfl,he,hl,hg,hQ,rfl⟩;obtain⟨D2,hN,rfl,z⟩:=aoI hQ;obtain⟨-,-,j⟩:=y.WT hl hg (by decide);have n0:=y.di.n0;have n1:=y.di.n1;have en:=U.now;have b1:=U.tabs.len;have b2:=U.tabs.bn;obtain⟨p0,pu⟩:=hp;have a2:=Int.emod_nonneg p (show a+1≠0 by omega);have d1:=Int.emod_lt_of_pos p (show 0<a+1 by omega);rw[<-acG p0]at a2 d1;have F:∀{H':Heap},Heap.le H1 H'->∀w:Bool,w=true->(w=true->((!decide (pd D f=0))=true->true=true)/\((!decide (pd D f=0))=false->ae .i64 (a+1)/\decide (na=a+1)=true))/\(w=false->false=true):=λ _ w P=>by
  subst P;refine⟨λ _=>⟨λ _=>rfl,λ h=>u' ?_⟩,λ h=>by cases h⟩;have h:=aab (np h);obtain⟨s1,-⟩:=j h;have:=hN.now;rw[z h]at this;have e:(mZ D f).now=(bJ D f).1.now+1:=rfl;rw[e,s1.now]at this;exact aau (by omega)
 refine⟨p,IntWalk.i64_in _ (by omega),y' ?_⟩;generalize p.tmod (a+1)=T at*;refine⟨λ i _=>0<=i/\i<=xn,λ i=>xn-i.toNat,u' (by omega),?_⟩;rintro H2 u i ⟨G,i1⟩;dsimp only;refine⟨λ g=>?_,λ _=>⟨_,Il (b.mono (aa l1 u)),λ H3 o w P=>F (aa u o) w P⟩⟩;have g:=aab g;obtain⟨hi,hA,_,c9,nm,A1,m1,c1,A2,m2,c2,A3,m3,c3,A4,m4,c4,A5,m5,c5,rfl,hT⟩:=U.tabs.at u G g;refine⟨hA,G,g,_,_,_,_,_,_,_,_,_,_,_,_,_,_,_,_,c9,_,qY (hN.tabs.mono u),?_⟩;rintro H3 o _ rfl;refine⟨λ _=>⟨_,Il (b.mono (aa l1 (aa u o))),λ H4 V w P=>F (aa u (aa o V)) w P⟩,λ h=>?_⟩;have h:=aab (np h);obtain⟨s1,s2⟩:=j h;obtain rfl:=z h;have hj:i.toNat<(mZ D f).tabs.length:=by have:=Zb s2.nm;have:=Zb y.nm;omega
 obtain⟨g1,g2⟩:=s1.tab i.toNat hi hj;have hf:cO nm (mZ D f).tabs=i:=by
  have:=aoq s2.nm hj;have e:(mZ D f).tabs[i.toNat].sch.name=nm:=g1.name.trans hT.sch.name.symm;rw[e]at this;omega
 have Q:=hN.tabs.len;have c6:=aa u o;rw[hf];obtain⟨d6,hB,_,L,a3,a4,b9,Q,a1,b3,a9,d2,d0,d3,a6,b5,a5,b6,b4,b0,rfl,x⟩:=hN.tabs.at c6 G (by omega);have lo:∀v∈D.tabs[i.toNat].vs,v.rc.lo<D.now+1:=λ v hv=>by have:=y.lo _ (aan hi) v hv;omega
 have M:=aoH g2 lo (by omega) (show T<D.now+1 by omega);have R:=g1.at' T (by omega);have v1:=(y.di.tab _ (aan hi)).2.2.2.2.len;have v2:=(s2.di.tab _ (aan hj)).2.2.2.2.len;have w1:=hT.vs.len;have w2:=x.vs.len;change aox (mZ D f).tabs[i.toNat].vs T=_ at M;change ((cY T (mZ D f).tabs[i.toNat].sch.vers).getD og).cols=_ at R;clear g1 g2 hf lo;generalize (mZ D f).tabs[i.toNat]=t' at*;generalize D.tabs[i.toNat]=t at*;refine⟨λ h=>absurd (aab h) (by omega),λ _=>⟨λ h=>absurd (aab h) (by omega),λ _=>⟨hB,G,by omega,_,_,_,L.cy (k:=5) rfl,_,aoF x.vs (by omega),?_⟩⟩⟩;rintro H4 V B1 b1 f1 r1;refine⟨_,aoF (hT.vs.mono (aa o V)) (by omega),?_⟩;rintro H5 l5 B2 b2 f2 r2;refine⟨_,ib (r1.mono l5) r2 M,?_⟩;rintro H6 l6 _ rfl;have q:=aa V (aa l5 l6);refine⟨λ h=>by simp at h,λ _=>⟨hB,G,by omega,_,_,_,_,_,_,_,_,_,_,_,_,_,Cells.part (xs:=[]) (ys:=[.string a3,.slice a4 b9 Q,.slice a1 b3 a9,.slice d2 d0 d3,.slice a6 b5 a5]) (zs:=[.slice b6 b4 b0]) (L.mono q),_,kF (x.sch.mono q),?_⟩⟩;rintro H7 l7 a7 b7 A7 n7 c7 _ ⟨-,-,-,y7,a0,e7⟩;refine⟨_,kF (hT.sch.mono (aa o (aa q l7))),?_⟩;rintro H8 l8 a8 b8 A8 n8 c8 _ ⟨-,-,-,y8,c0,e8⟩;have s:y7=y8:=by
  have k7:=aak dh.cols e7;have k8:=aak dh.cols e8;exact k7.trans (R.trans k8.symm)
 subst s;refine⟨_,ug (a0.mono l8) c0,?_⟩;rintro H9 l9 _ rfl;exact⟨λ h=>by simp at h,λ _=>u' ⟨u' (by omega),by omega⟩⟩
end
end Go.Vc
