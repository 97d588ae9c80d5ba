/- A part of the proof of TransactionSteps. -/
import Derived.Test.YtnkineaffgkicaaGreatDoorG31
set_option maxHeartbeats 16000000
set_option maxRecDepth 100000
set_option linter.unusedVariables false
set_option linter.defProp false
set_option linter.unusedSectionVars false
set_option linter.unusedSimpArgs false
namespace Go.Vc
open Go Go.Shelf Go.Proofs
section
def Xf {H:Heap}{V:D'}{n c:Nat}(h:Sl H V n c [Ll 0,Lm 0]):qj H ⟨1,CU,V,n,c,0,9,none,0,0,0,none,0,0,⟨⟨[]⟩⟩,none,0,0,none,0,0,none,0,0,none,0,0,0,mt,0⟩ ye:=
 ⟨rfl,rfl,h,rfl,rfl,Sl.nil,rfl,Sl.nil,ba,rfl,rfl,rfl,by decide,by decide,by decide,by decide,VY⟩
section
attribute [local irreducible] af
def Il {H:Heap}(g:mr H):ZB 17 [] H fg (λ r _=>r=true):=by
 refine ΦK 1 {aj [57,62,80] [(3,[4,6,8,3,11,13,14,16,18,21,23,24,0,1,1,21,13,14,16,18,23,24,0,1,1,1,21,11,13,14,16,18,23,24,0,1,1,1,1,11,3,13,14,16,18,21,23,24,0,1,1,21,13,14,16,18,23,24,0,1,1,1,21,3,13,14,16,18,23,24,0,1,1,1,1,21,3,11,13,14,16,18,23,24,0,1,1,1,11,3,13,14,16,18,23,24,0])] []with res:=wj [(8,⟨false,[(true,[.str,.sl,.sl,.row 83 68,.sl])]⟩)],kb:=ir [29,30,33,38,44,53,58,63,72,76,81] []} (λ a=>C Zl 57 [ΦT {data:=⟨[(116:UInt8)]⟩},ΦG [.int .u16 0,.int .u16 1,.int .u16 0,.int .u16 0]] H λ b c d e f g h i j k l m n=>C ZT 58 [.int .u16 0,.int .u16 0] b λ o p q r=>let s:=λ s t (u:Nat)(v w:Int) x (y z:Nat)(a0:Int) a1 (a2 a3:Nat) a4 (a5 a6:Nat)=>U s [I 4,ΦT ⟨⟨[]⟩⟩,S none 0 0,I 0,I 0,S none 0 0,I 0,S none 0 0,ΦT c,S d e f,S g h i,S t j u,S l m n,I 0,ΦT ⟨⟨[]⟩⟩,I 0,I 1,ΦT {data:=⟨[(116:UInt8)]⟩},S p q r,I 0,I 9,S none 0 0,I 0,S none 0 0,ΦT ⟨⟨[]⟩⟩,S none 0 0,S none 0 0,S none 0 0,S none 0 0,I 0,ΦT ⟨⟨[]⟩⟩,I 0] 2 λ a7 a8 a9=>let b0:=λ(b0 b1:Int) b2 (b3 b4:Nat)(b5:Int) b6 (b7 b8:Nat) b9 (c0 c1:Nat)=>[I b0,I b1,S b2 b3 b4,I b5,S b6 b7 b8,S b9 c0 c1];C YT 29 [ΦG (b0 v w x y z a0 a1 a2 a3 a4 a5 a6),S a7 2 a8] a9 λ b1 b2 b3 b4 b5 b6 b7 b8 b9 c0 c1 c2 c3 c4=>U b1 [I 1,ΦT {data:=⟨[(116:UInt8)]⟩},S p q r,I 0,I 9,S none 0 0,I 0,S none 0 0,ΦT ⟨⟨[]⟩⟩,S none 0 0,S none 0 0,S none 0 0,S none 0 0,I 0,ΦT ⟨⟨[]⟩⟩,I 0] 1 λ c5 c6 c7=>C YT 29 [ΦG (b0 b2 b3 b4 b5 b6 b7 b8 b9 c0 c1 c2 c3),S c5 1 c6] c7 λ c8 c9 d0 d1 d2 d3 d4 d5 d6 d7 d8 d9 e0 e1=>decide (c4=0)=true/\decide (b2=1)=true/\decide (b3=2)=true/\decide (O b5=1)=true/\ΦX b4 0 b5 (ΦE ZM c8 b4 (N 0*6+5) (λ e2 e3 e4=>decide (O e3=1)=true/\C ZP 16 [ΦG (b0 b2 b3 b4 b5 b6 b7 b8 b9 c0 c1 c2 c3),ΦT {data:=⟨[(116:UInt8)]⟩}] c8 λ e5 e6=>decide (e6=0)=true/\C ZP 16 [ΦG (b0 b2 b3 b4 b5 b6 b7 b8 b9 c0 c1 c2 c3),ΦT {data:=⟨[(117:UInt8)]⟩}] e5 λ e7 e8=>decide (e8=-1)=true/\ΦX b4 0 b5 (ΦE XM e7 b4 (N 0*6) (λ e9 f0 f1 f2 f3 f4 f5 f6 f7 f8 f9 g0 g1 g2 g3 g4=>C ZT 14 [ΦG [ΦT e9,S f0 f1 f2,S f3 f4 f5,S f6 f7 f8,S f9 g0 g1,S g2 g3 g4]] e7 λ g5 g6 g7 g8=>decide (O g7=1)=true/\decide (e1=15)=true/\C ZP 19 [ΦG (b0 b2 b3 b4 b5 b6 b7 b8 b9 c0 c1 c2 c3)] g5 λ g9 h0=>decide (h0=0)=true/\a true g9))));C YS 59 [] o (λ t u v w x y z a0 a1 a2 a3 a4 a5=>U t k j (λ a6 a7 a8=>s a8 a6 a7 u v w x y z a0 a1 a2 a3 a4 a5/\s a8 a6 a7 u v w x y z a0 a1 a2 a3 a4 a5)/\U t k j λ a6 a7 a8=>s a8 a6 a7 u v w x y z a0 a1 a2 a3 a4 a5)/\let t:=λ t u (v:Nat)=>C YS 59 [] t λ w x y z a0 a1 a2 a3 a4 a5 a6 a7 a8=>s w u v x y z a0 a1 a2 a3 a4 a5 a6 a7 a8;U o k j (λ u v w=>C YS 59 [] w (λ x y z a0 a1 a2 a3 a4 a5 a6 a7 a8 a9=>s x u v y z a0 a1 a2 a3 a4 a5 a6 a7 a8 a9/\s x u v y z a0 a1 a2 a3 a4 a5 a6 a7 a8 a9)/\t w u v)/\C YS 59 [] o (λ u v w x y z a0 a1 a2 a3 a4 a5 a6=>U u k j λ a7 a8 a9=>s a9 a7 a8 v w x y z a0 a1 a2 a3 a4 a5 a6)/\U o k j λ u v w=>t w u v) ?_;dsimp only[aQ,aR,eQ,C,ΦE,ΦG,I,N,S,ΦT,U,ΦX,O];refine⟨_,oH (nm:=CU) (a:=0) (b:=1) (c:=0) (d:=0) (Fa (.inl rfl)) (by decide) (by decide) (by decide) (by decide),?_⟩;rintro H1 l1 nm A1 n1 c1 B1 m1 d1 rn b3 F1 k1 f1 o;refine⟨_,Nh (abt _) (abt _),?_⟩;rintro H2 l2 V vn vc hV;have q1:=o.vers;have q2:=o.key;have q3:=o.row;have J:=o.rn;have q5:=o.cst;rw[show mkKey 1=[1]by kernel_rfl]at q2;rw[show jF 0=[]by kernel_rfl]at q3 J;rw[show jR 0=[]by kernel_rfl]at q5;repeat' first
  |(have e:=G;have p:=F;refine Bu ?_)
  |(refine⟨_,Ii,?_⟩;rintro H3 l3 a b X n c h Y m d Z k e G;obtain⟨rfl,rfl,rfl,rfl,rfl,rfl,rfl,rfl,rfl,rfl,rfl,rfl⟩:=G;have G:=True.intro)
  |(
   fail_if_success
    have p:=F
   intro E1 e1 H4 l4 F nP;have L:Heap.le H2 H4:=by repeat first | assumption | exact ah _ | refine aa (by assumption) ?_)
  |(
   fail_if_success
    have e:=G;have p:=F
   apply And.intro)
 all_goals
  intro A6 c6 v l6 g6 n6;have u:Heap.le H1 v:=by repeat first | assumption | exact ah _ | refine aa (by assumption) ?_
  have r2:Heap.le H2 v:=by repeat first | assumption | exact ah _ | refine aa (by assumption) ?_
  have r4:Heap.le H4 v:=by repeat first | assumption | exact ah _ | refine aa (by assumption) ?_
  have Q:aV v nm A1 n1 c1 B1 m1 d1 E1 rn e1 F1 k1 f1 Ox:=⟨o.z.symm,o.s,q1.mono u,q2.mono u,((q3.mono (aa l2 L)).sl (ah _) F J.symm nP (by rw[J];decide) (by rw[J];decide)).mono r4,q5.mono u⟩;have B:=Xf (hV.mono r2);have he:Sl v A6 2 c6 [EZ Ox,ye]:=((Row.one (KA Q)).append (AL B)).sl (ah _) g6 rfl n6 (by decide) (by decide);refine⟨_,Ks (g.mono (aa l1 u)) ⟨rfl,rfl,Sl.nil,rfl,rfl⟩ he Xd (by rw[Wc];exact Xc.2.1),?_⟩;rintro H7 M R T X n c b0 Y hn hc Z cn cc er ⟨A,hz,-⟩;obtain⟨t,hh⟩:=hz Wg;rw[Wg]at A;rw[WZ]at t;intro A8 c8 H8 x g8 n8;have a0:Sl H8 A8 1 c8 [ye]:=(AL (B.mono (aa M x))).sl (ah _) g8 rfl n8 (by decide) (by decide);refine⟨_,Ks (g.mono (aa l1 (aa u (aa M x)))) (t.mono x) a0 Wi.1 Wi.2.1,?_⟩;rintro H9 l9 a1 a2 X2 n2 c2 a3 Y2 b5 a9 Z2 b4 b1 a5 ⟨l,-,-⟩;rw[Xe]at l;have t:=t.mono (aa x l9);have q:um H9 R T X n c hn cn ⟨1,2,[UD]⟩:=UE▸t;have j:=q.tabs.len;have j:n=1:=j.symm;obtain⟨_,hA,_,ha,a6,C1,o1,s1,C2,o2,s2,C3,o3,s3,C4,o4,s4,C5,o5,s5,rfl,hT⟩:=q.tabs.at (i:=0) (ah _) (by decide) (by omega);have E:=hT.vs.len;have E:o5=1:=E.symm;refine⟨by rw[A];rfl,by rw[q.now];rfl,by rw[q.nid];rfl,aau (by omega),hA,by decide,by omega,_,_,_,ha.cy (k:=5) rfl,aau (by omega),_,qY q.tabs,?_⟩;rintro b2 w _ rfl;refine⟨by kernel_rfl,_,qY (q.tabs.mono w),?_⟩;rintro a4 W _ rfl;have f:=aa w W;refine⟨by kernel_rfl,hA,by decide,by omega,_,_,_,_,_,_,_,_,_,_,_,_,_,_,_,_,ha.mono f,_,Ab (hT.mono f) (abz _ _) (by omega),?_⟩;rintro a8 D P pn pc hP;have y:=hP.len;have y:pn=1:=y.symm;refine⟨aau (by omega),by rw[l];rfl,_,Ih (g.mono (aa l1 (aa u (aa M (aa x (aa l9 (aa f D))))))) (t.mono (aa f D)) wkK,?_⟩;rintro b6 a7 _ rfl;exact⟨by rw[Wj];rfl,rfl⟩
end
end
end Go.Vc
