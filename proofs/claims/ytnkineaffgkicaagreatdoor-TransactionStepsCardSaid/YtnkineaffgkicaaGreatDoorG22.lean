/- A part of the proof of TransactionSteps. -/
import Derived.Test.YtnkineaffgkicaaGreatDoorG21
set_option maxHeartbeats 16000000
set_option maxRecDepth 100000
set_option linter.unusedVariables false
set_option linter.defProp false
set_option linter.unusedSectionVars false
set_option linter.unusedSimpArgs false
namespace Go.Vc
open Go Go.Shelf Go.Proofs
section
variable {a:Heap}{b i j:Nat}{h:D'}{o:List Int}
def Bm {l:List eC}{f:FuncId}{q:Value}{p:eC->Bool}(s:Sl a h b i l)(x:kP Tryz.prog eC a f q p):
  ZB 55 [.slice h b i,.func (.func f) #[] #[q]] a gL (λ r _=>r=idxOf p 0 l):=by
 refine ΦK 0 (aj [16] [] [(2,[ag 8])]) (λ c=>W ZE a (λ d=>d 0 a) λ d e g i=>J (i<O b) (ΦX h i b (ΦE XM g h (N i*6) (λ j k l m n o p r s t u v w x y z=>C ZO f [ΦG [ΦT j,S k l m,S n o p,S r s t,S u v w,S x y z],q] g λ a0 a1=>ΦQ a1 (c i a0) (ΦR (i+1)/\d (i+1) a0/\e (i+1)<e i)))) (c (-1) g)) ?_;dsimp only[PL,aQ,aR,aW,eQ,C,ΦE,N,ΦQ,ΦR,W,ΦX,O,J];refine⟨λ b _=>0<=b/\b<=l.length/\idxOf p 0 l=idxOf p b (l.drop b.toNat),λ b=>l.length-b.toNat,y' rfl,?_⟩;rintro V k e ⟨o,L,t⟩;simp only[aad,aaf];refine⟨λ g=>?_,λ m=>?_⟩
 .obtain⟨y,v,_,z,u⟩:=s.at k o g;have j:=x _ _ _ k u;obtain⟨nm,G,Z,P,Y,I,R,X,D,T,Q,E,c4,M,B,U,rfl,-⟩:=u;refine⟨v,o,g,_,_,_,_,_,_,_,_,_,_,_,_,_,_,_,_,z,_,j,?_⟩;rintro F _ d rfl;rw[ak o y,idxOf]at t;refine⟨λ w=>?_,λ w=>⟨?_,y' ?_,by omega⟩⟩
  .grind
  .have:=s.bn;omega
  grind
 .rw[ai m s.len,idxOf]at t;grind
def cO (x:ByteArray)(a:List eC):Int:=idxOf (λ t=>decide (t.sch.name=x)) 0 a
def Qi {x:ByteArray}(d:Cells a (some ⟨b,0,none⟩) 0 [.string x]):kP Tryz.prog eC a 56 (.pointer (some ⟨b,0,none⟩)) (λ t=>decide (t.sch.name=x)):=by
 rintro y k t c ⟨nm,j,w,m,v,z,p,u,f,q,o,i,n,l,e,r,rfl,h⟩;have s:=h.sch.name;refine ΦK 0 bE (λ a=>ΦE Xr y (some ⟨b,0,none⟩) 0 λ c=>a (decide (nm=c)) y) ?_;dsimp only[eQ,ΦE];exact⟨x,d.mono c,by grind⟩
def qY {B C:D'}{d k e:Nat}{p l q:Int}{x:ByteArray}{s:List eC}(u:Sl a h b i s):
  ZB 16 [.agg ⟨[Φi p,Φi l,.slice h b i,Φi q,.slice B j d,.slice C k e]⟩,.string x] a gL (λ r _=>r=cO x s):=by
 refine ΦK 0 (aj [8] [] []) (λ c=>∃d:Int->Heap->Prop,(∀(e:Nat)(f:Heap),Heap.le a f->Cells f (some ⟨e,0,none⟩) 0 [ΦT x]->af Tryz.prog 55 [S h b i,.func (.func 56) ⟨[]⟩ ⟨[.pointer (some ⟨e,0,none⟩)]⟩] f ⟨false,[(false,[.int .i64])]⟩ d)/\∀(e:Heap)(f:Int),d f e->c f a) ?_;exact⟨λ r _=>r=cO x _,λ g v o t=>Bm (u.mono o) (Qi t),λ _ _ f=>f⟩
def dY (w:Int)(v:bR):bR:=if v.rc.hi=1099511627776 then{v with vals:=xB v.vals w}else v
def zO {l:List bR}(g:Sl a h b i l):
  ZB 128 [.slice h b i] a ⟨false,[(false,[.row j 75])]⟩ (λ m s t=>m=l.length/\Row t s l):=by
 refine ΦK 0 bE (λ c=>ΦQ (Option.isNone h) (c 0 [] a) (∃d:G',Cells a h 0 d/\L d=b*6/\(0+b)*64<=M/\c (0+b) ([]++d) a)) ?_;dsimp only[L,M,ΦQ];refine⟨λ v=>?_,λ v=>?_⟩
 .have u:b=0:=by
   rcases abl b with d | d
   .grind
   .obtain⟨f,o,e⟩:=g.cD d;grind
  subst u;have:=aal g.len;subst this;exact⟨rfl,rfl⟩
 .obtain⟨k,q,p⟩:=g.row;refine⟨k,q,by rw[p.length,g.len];rfl,by have:=g.bnd;rw[aaT];omega,by rw[aaT];exact g.len.symm,by grind⟩
section
variable {H:Heap}{nm:ByteArray}{A:D'}{n c:Nat}{B:D'}{m d:Nat}{E:D'}{k e:Nat}{F:D'}{l f:Nat}{G:D'}{q g:Nat}{t:eC}
def CD (P:rX H nm A n c B m d E k e F l f G q g t):ZB 204 [.agg ⟨JK nm A n c B m d E k e F l f G q g⟩] H fi (λ A' n' c' H'=>Sl H' A' n' c' (t.vs.map (dY (wd t.sch)))):=by
 refine ΦK 2 {aj [7,20] [] [(4,[.slot 4 false [.row 35 75],ag 13])]with res:=wj [(10,⟨false,[(false,[.row 34 75])]⟩)]} (λ a=>C ZP 47 [ΦG [ΦT nm,S A n c,S B m d,S E k e,S F l f,S G q g]] H λ b h=>C YL 128 [S G q g] b λ i j o=>W ZG i (λ p=>p j o 0 i) λ p r s t u v=>J (v<O j) (ΦY v t (ΦF ZH u (N v*6) 6 (λ w x y z a0 a1 a2 a3=>C ZO 48 [ΦG [I w,S x y z,I a0,I a1,I a2,I a3]] s λ a4 a5=>ΦQ a5 (ΦY v t (ΦF ZM u (N v*6+1) 1 (λ a6 a7 a8=>C ZT 49 [S a6 a7 a8,I h] a4 λ a9 b0 b1 b2=>ΦY v t (N v*6+1+1<=L u/\ΦR (v+1)/\(let b3:=av u (N v*6+1) [S b0 b1 b2];p t b3 (v+1) a9/\r t b3 (v+1)<r t u v))))) (ΦR (v+1)/\p t u (v+1) a4/\r t u (v+1)<r t u v)))) (U s u t (λ w x y=>a w t x y))) ?_;dsimp only[PL,aQ,aR,aW,eQ,C,ΦF,L,N,ΦQ,ΦR,W,ΦY,O,J];refine⟨_,zM P,?_⟩;rintro H1 a1 _ rfl;have w0:=Qh t.sch;have w1:=CC t.sch;generalize wd t.sch=w at*;refine⟨_,zO (P.vs.mono a1),?_⟩;rintro H2 M p Q ⟨rfl,o⟩;have b1:=P.vs.bn;have b2:=P.vs.len;have b3:=P.vs.bnd;generalize t.vs=a at*;refine⟨λ p Q i H'=>0<=i/\i<=a.length/\a.length=p/\Row H' Q ((a.take i.toNat).map (dY w)++a.drop i.toNat),λ _ _ i=>a.length-i.toNat,y' ⟨rfl,by simpa using o⟩,?_⟩;rintro H3 a6 p Q i ⟨y,i1,rfl,o⟩;dsimp only;simp only[aad,aaf];have T:((a.take i.toNat).map (dY w)++a.drop i.toNat).length=a.length:=by simp;omega
 refine⟨λ a4=>?_,λ a3=>?_⟩
 .have hi:i.toNat<a.length:=by omega
  obtain⟨us,b,r,a2⟩:=o.mg (i:=i.toNat) (by omega);have V:=b;have hm:((a.take i.toNat).map (dY w)).length=i.toNat:=by simp;omega
  have eg:((a.take i.toNat).map (dY w)++a.drop i.toNat)[i.toNat]'(by omega)=a[i.toNat]:=by
   apply abC;rw[<-aai,abk (by omega),hm,adY,acq,adW,aai hi]
  have es:∀v,((a.take i.toNat).map (dY w)++a.drop i.toNat).set i.toNat v=(a.take i.toNat).map (dY w)++v::a.drop (i+1).toNat:=by
   intro v;rw[ak y hi,xS _ _ _ _ hm]
  have et:(a.take (i+1).toNat).map (dY w)++a.drop (i+1).toNat=(a.take i.toNat).map (dY w)++dY w a[i.toNat]::a.drop (i+1).toNat:=by
   rw[bu y hi,aaR,aat];rfl
  rw[eg]at b;obtain⟨A9,n9,c9,rfl,r1,r2,r3,r4,r5,r6⟩:=b;have w6:win Q (i.toNat*6) 6=[Φi a[i.toNat].id,.slice A9 n9 c9,Φi a[i.toNat].vd.lo,Φi a[i.toNat].vd.hi,Φi a[i.toNat].rc.lo,Φi a[i.toNat].rc.hi]:=r 0 6 (by decide);have a0:=r 1 1 (by decide);refine⟨y,by omega,_,_,_,_,_,_,_,_,w6,_,zN,?_⟩;rintro H4 j _ rfl;refine⟨λ h=>⟨y,by omega,_,_,_,a0,_,Qg (r2.mono j) w0 w1,?_⟩,λ h=>u' ⟨y' ⟨trivial,?_⟩,by omega⟩⟩
  .rintro H5 Y A5 n5 c5 hp;have D:=aa j Y;have a5:Q.length=a.length*6:=by rw[o.length,T];rfl
   refine⟨y,J' ⟨y' ⟨trivial,?_⟩,by omega⟩⟩;obtain⟨z,u,x,s⟩:=(o.mono D).mg (i:=i.toNat) (by omega);have X:z=[Φi a[i.toNat].id,.slice A9 n9 c9,Φi a[i.toNat].vd.lo,Φi a[i.toNat].vd.hi,Φi a[i.toNat].rc.lo,Φi a[i.toNat].rc.hi]:=by
    have:win _ (i.toNat*6) 6=z.take 6:=x 0 6 (by decide);have M:=Rep.len u;rw[aag (by rw[M];decide)]at this;grind
   subst X;have:=s 1 [.slice _ _ _] (dY w _) (by show 1+1<=6;simp) ⟨A5,n5,c5,by rw[dY,if_pos (aab h)];rfl,by rw[dY];grind,by rw[dY];grind,by rw[dY];grind⟩;rw[es]at this;rw[et];omega
  .rw[et,dY,if_neg (aac h)];rw[ak y _]at o;exact o.mono j
 .rw[aag (by omega),List.drop_of_length_le (by omega),aar]at o;intro A4 c4 H4 j Z R;exact o.sl j Z (by simp) R (by grind) (by omega)
end
def eX {c:Nat}(k:Sl a h b c o)(G:∀x∈o,0<=x):ZB 60 [.slice h b c] a fi (λ Q C E z=>Sl z Q C E (o.map (·-1))):=by
 refine ΦK 1 (aj [] [] [(3,[.slot 3 false [.row 23 3],ag 11])]) (λ c=>O b=O b/\0<=O b/\O b*O 8<=M/\∀d:G',d=dE [I 0] (N (O b))->W ZG a (λ e=>e (N (O b)) d 0 a) λ e f g i j k=>J (k<O b) (ΦX h k b (ΦE ZE g h (N k*1) (λ l=>ΦR (l-1)/\ΦY k i (N k*1+1<=L j/\ΦR (k+1)/\(let m:=av j (N k*1) [I (l-1)];e i m (k+1) g/\f i m (k+1)<f i j k))))) (U g j i (λ l m n=>c l i m n))) ?_;dsimp only[PL,aW,eQ,ΦE,L,M,N,ΦR,W,ΦX,ΦY,O,J];have R:=k.len;have X:=k.bn;have s3:b*8<=140737488355328:=k.bnd;refine⟨rfl,y' ?_⟩;rintro Z rfl;rw[aaV];have u:Rep.rel a _ (0:Int):=⟨rfl,by decide⟩;refine⟨λ p y i z=>0<=i/\i<=b/\b=p/\Row z y ((o.take i.toNat).map (·-1)++List.replicate (b-i.toNat) 0),λ _ _ i=>b-i.toNat,P' ⟨rfl,Row.gS u b⟩,?_⟩;rintro T w p y i ⟨g,i1,rfl,j⟩;simp only[aad,aaf];refine⟨λ e=>?_,λ B=>?_⟩
 .obtain⟨S,P,_,r,rfl,D⟩:=k.at w g e;have hx:=G _ (aan S);have f:ae .i64 (o[i.toNat]-1):=by simp[ae]at D⊢;omega
  have q:((o.take i.toNat).map (·-1)++List.replicate (b-i.toNat) (0)).length=b:=by grind
  have F:y.length=b*1:=by rw[j.length,q];rfl
  have d:=j.dV (i:=i.toNat) (by omega) (us:=[.int _ _]) (t:=o[i.toNat]-1) ⟨rfl,f⟩;rw[MX _ 0 o i b g _ R]at d;exact⟨P,g,e,_,r,f,g,e,y' ⟨y' ⟨trivial,d⟩,by omega⟩⟩
 .rw[aag (by omega),show b-i.toNat=0 by omega,adt,aar]at j;intro Y c4 V v s m;exact j.sl v s (by grind) m (by omega) (by omega)
def iy (a:List Int)(c:Int):Bool:=decide (c<0)||decide ((a.length:Int)<=c)||decide (a.getD c.toNat 0=0)
def CE (b:List Xp)(a:List Int)(r:Int):Ck:=
 if(cJ (xy b a) r).er≠0 then⟨0,(cJ (xy b a) r).er⟩else if(CB b r).any (iy a)then⟨0,8⟩else⟨(cJ (xy b a) r).kd,0⟩
structure Su (es:List Xp):Prop where
 wf:AP es
 val:∀x∈es,x.op=1->bG x.k=true
 len:es.length<=200
def any_congr {m:List Int}{p:Int->Bool}(h:∀y,y∈o↔y∈m):o.any p=m.any p:=by
 grind
def uf {B:D'}{c d:Nat}{w:List Xp}{r:Int}(R:Sl a h b c w)(G:Sl a B j d o)(s:Su w)(P:0<=r)(L:r<w.length):
  ZB 260 [.slice h b c,Φi r,.slice B j d] a MY (λ k e _=>(⟨k,e⟩:Ck)=CE w o r):=by
 refine ΦK 0 (aj [] [] [(5,[ag 26])]) (λ e=>C YF 337 [S h b c,I r,S B j d] a λ f g i=>V (i=0) (e 0 i f) (C ZT 338 [S h b c,I r] f (λ k l m n=>W ZE k (λ o=>o 0 k) λ o p q s=>J (s<O m) (ΦX l s m (ΦE ZE q l (N s*1) (λ t=>J (t<0) (e 0 8 q) (J (O j<=t) (e 0 8 q) (ΦX B t j (ΦE ZE q B (N t*1) (λ u=>J (u=0) (e 0 8 q) (ΦR (s+1)/\o (s+1) q/\p (s+1)<p s)))))))) (e g 0 q)))) ?_;dsimp only[PL,aQ,aR,aW,eQ,C,ΦE,N,ΦR,W,ΦX,O,V,J];refine⟨_,Jy R G s.wf s.val P L s.len,?_⟩;rintro H1 u X er he;rw[CE,<-he];refine⟨λ f=>?_,λ f=>⟨_,Ej (R.mono u) s.wf P L s.len,?_⟩⟩
 .rw[if_pos (by simpa using f)]
 have f:=np f;rw[if_neg (by simpa using f)];rintro H2 z A2 U c2 ⟨l,F,v⟩;have s1:=F.len;have s2:=F.bn;have Z:=G.len;have q:=aa u z;rw[<-any_congr v];refine⟨λ i _=>0<=i/\i<=U/\l.any (iy o)=(l.drop i.toNat).any (iy o),λ i=>U-i.toNat,P' rfl,?_⟩;rintro H3 t i ⟨E,i1,T⟩;simp only[aad,aaf];refine⟨λ p=>?_,λ x=>?_⟩
 .obtain⟨hx,Y,_,y,rfl,r2⟩:=F.at t E p;rw[ak E hx,aaS]at T;have g:iy o l[i.toNat]=true->(⟨0,8⟩:Ck)=if l.any (iy o)=true then⟨0,8⟩else⟨X,0⟩:=λ f=>by grind
  refine⟨Y,E,p,_,y,λ Q=>g (by simp[iy,Q]),λ Q=>⟨λ M=>g (by simp[iy,Z,M]),λ M=>?_⟩⟩;obtain⟨hy,hB,_,D,rfl,r3⟩:=G.at (i:=l[i.toNat]) (aa q t) (by omega) (by omega);refine⟨hB,y' ⟨_,D,λ g3=>g (by rw[iy];grind),λ g3=>u' ⟨y' ?_,by omega⟩⟩⟩;have:iy o l[i.toNat]=false:=by rw[iy];grind
  grind
 .rw[ai x s1]at T;grind
end
section
variable {b:Heap}
structure Ed where
 kind:Int
 table:ByteArray
 vals:List az
 vd:bc
 ex:List Xp
 pred:Int
 set:List xP
 sch:bp
 col:cz
structure Iq where
 ek:Int
 et:ByteArray
 va:D'
 vn:Nat
 vc:Nat
 vf:Int
 vt:Int
 xa:D'
 xn:Nat
 xc:Nat
 ep:Int
 sa:D'
 sn:Nat
 sc:Nat
 nm:ByteArray
 A:D'
 n:Nat
 c:Nat
 B:D'
 m:Nat
 d:Nat
 E:D'
 k:Nat
 e:Nat
 F:D'
 l:Nat
 f:Nat
 ci:Int
 cn:ByteArray
 ck:Int
abbrev Iq.v (a:Iq):G':=[.int .i64 a.ek,.string a.et,.slice a.va a.vn a.vc,.int .i64 a.vf,.int .i64 a.vt,.slice a.xa a.xn a.xc,.int .i64 a.ep,.slice a.sa a.sn a.sc,.string a.nm,.slice a.A a.n a.c,.slice a.B a.m a.d,.slice a.E a.k a.e,.slice a.F a.l a.f,
 .int .i64 a.ci,.string a.cn,.int .i64 a.ck]
structure qj (H:Heap)(a:Iq)(x:Ed):Prop where
 kind:a.ek=x.kind
 table:a.et=x.table
 vals:Sl H a.va a.vn a.vc x.vals
 lo:a.vf=x.vd.lo
 hi:a.vt=x.vd.hi
 ex:Sl H a.xa a.xn a.xc x.ex
 pred:a.ep=x.pred
 set:Sl H a.sa a.sn a.sc x.set
 sch:aV H a.nm a.A a.n a.c a.B a.m a.d a.E a.k a.e a.F a.l a.f x.sch
 ci:a.ci=x.col.id
 cn:a.cn=x.col.name
 ck:a.ck=x.col.kind
 r1:ae .i64 x.vd.lo
 r2:ae .i64 x.vd.hi
 r3:ae .i64 x.col.id
 r4:ae .i64 x.col.kind
 r5:str x.col.name
def qj.mono {H c:Heap}{a:Iq}{x:Ed}(h:qj H a x)(b:Heap.le H c):qj c a x:=
 {h with vals:=h.vals.mono b,ex:=h.ex.mono b,set:=h.set.mono b,sch:=h.sch.mono b}
instance:Rep Ed where
 sz:=16
 byt:=264
 rel H vs x:=∃a:Iq,vs=a.v/\qj H a x
 mono:=λ hle ⟨a,h1,h2⟩=>⟨a,h1,h2.mono hle⟩
 len:=λ ⟨a,h1,_⟩=>by simp[h1]
 pos:=by decide
 bpos:=by decide
 one:=λ ⟨a,h1,_⟩=>by rw[h1];simp[Value.oneCell']
def rC (x:Ed)(cols:List Int):Int:=
 if eo x.vd=false then 10 else if x.pred= -1 then 0 else if(CE x.ex cols x.pred).er≠0 then(CE x.ex cols x.pred).er
 else if(CE x.ex cols x.pred).kd≠3/\(CE x.ex cols x.pred).kd≠0 then 7 else 0
structure Eo (x:Ed):Prop where
 ex:Su x.ex
 pred:x.pred= -1\/0<=x.pred/\x.pred<x.ex.length
 set:Rx x.ex x.set
section
variable {H:Heap}{a:Iq}{x:Ed}{P:D'}{p z:Nat}{cols:List Int}
def qk (e:qj H a x)(f:Eo x)(j:Sl H P p z cols):ZB 200 [.agg ⟨a.v⟩,.slice P p z] H gL (λ r _=>r=rC x cols):=by
 have g:=e.lo;have k:=e.hi;have i:=e.pred;refine ΦK 0 (aj [9] [] []) (λ b=>C ZO 138 [ΦG [I a.vf,I a.vt]] H λ c d=>ΦQ (!d) (b 10 c) (J (a.ep=-1) (b 0 c) (C YF 260 [S a.xa a.xn a.xc,I a.ep,S P p z] c (λ e f g=>J (g=0) (V (f=3) (V (f=0) (b 7 e) (b g e)) (b g e)) (b g e))))) ?_;dsimp only[aQ,aR,C,ΦQ,V,J];refine⟨_,fw,?_⟩;rintro l c _ rfl;rw[g,k,i];refine⟨λ h=>?_,λ h=>⟨λ b=>?_,λ b=>?_⟩⟩
 .rw[rC,if_pos (oL h)]
 .rw[rC,if_neg (by simp_all),if_pos (aab b)]
 have b:=aac b;have d:=f.pred.resolve_left b;have m:rC x cols=if(CE x.ex cols x.pred).er≠0 then(CE x.ex cols x.pred).er else if(CE x.ex cols x.pred).kd≠3/\(CE x.ex cols x.pred).kd≠0 then 7 else 0:=by
  rw[rC,if_neg (by simp_all),if_neg b]
 refine⟨_,uf (e.ex.mono c) (j.mono c) f.ex d.1 d.2,?_⟩;grind
def oW (b:List Xp)(cols:List Int):List Int->List xP->Int
 | _,[]=>0
 | dn,a::r=>if iy cols a.col=true then 8 else if a.col∈dn then 9 else if(CE b cols a.ex).er≠0 then(CE b cols a.ex).er
  else if(CE b cols a.ex).kd≠0/\(CE b cols a.ex).kd≠cols.getD a.col.toNat 0 then 7 else oW b cols (a.col::dn) r
def kY (a:List Int):G':=(List.range 12).map λ (j:Nat)=>Value.bool (decide ((j:Int)∈a))
def vA {dn:List Int}{k:Int}(b:0<=k)(a:k<12):(kY dn)[k.toNat]?=some (.bool (decide (k∈dn))):=by
 rw[kY];grind
def VI {a:G'}{k:Nat}{v:Value}(h:a[k]?=some v):win a k 1=[v]:=by
 obtain⟨b,rfl⟩:=aap.1 h;rw[win,aas _];rfl
def No {dn:List Int}{k:Int}(e:0<=k)(a:k<12):av (kY dn) k.toNat [.bool true]=kY (k::dn):=by
 have c:(kY dn).length=12:=by rfl
 have h:av (kY dn) k.toNat [.bool true]=(kY dn).set k.toNat (.bool true):=by
  rw[acj,if_pos (by omega),av];simp
 apply abU;intro j;by_cases b:j<12
 .have f:=vA (dn:=dn) (k:=(j)) (by simp) (by omega);have d:=vA (dn:=k::dn) (k:=(j)) (by simp) (by omega);grind
 .have g:(kY (k::dn)).length=12:=by rfl
  grind
def Ep {c:Int}(d:¬c<0)(a:¬(cols.length:Int)<=c)(b:cols.getD c.toNat 0≠0):iy cols c=false:=by rw[iy,aao d,aao a,aao b];rfl
def rD (G:qj H a x)(D:Eo x)(u:Sl H P p z cols)(hl:cols.length<=12):ZB 205 [.agg ⟨a.v⟩,.slice P p z] H gL (λ r _=>r=oW x.ex cols [] x.set):=by
 have t:=G.set;have X:=t.len;have s2:=t.bn;have U:=u.len;refine ΦK 0 (aj [] [] [(3,[ag 13,.arr 5 342])]) (λ b=>∃(c:Int->G'->Heap->Prop)(d:Int->G'->Nat),c 0 [ΦB false,ΦB false,ΦB false,ΦB false,ΦB false,ΦB false,ΦB false,ΦB false,ΦB false,ΦB false,ΦB false,ΦB false] H/\∀e:Heap,Heap.le H e->∀(f:Int)(g:G'),c f g e->J (f<O a.sn) (ΦX a.sa f a.sn (ΦE ZK e a.sa (N f*2) (λ h i=>J (h<0) (b 8 e) (J (O p<=h) (b 8 e) (ΦX P h p (ΦE ZE e P (N h*1) (λ j=>J (j=0) (b 8 e) (ΦY h 12 (ΦF Xt g (N h*1) 1 (λ k=>ΦQ k (b 9 e) (ΦY h 12 (N h*1+1<=L g/\C YF 260 [S a.xa a.xn a.xc,I i,S P p z] e (λ l m n=>V (n=0) (b n l) (let o:=ΦR (f+1)/\let o:=av g (N h*1) [ΦB true];c (f+1) o l/\d (f+1) o<d f g;V (m=0) (ΦX P h p (ΦE ZE l P (N h*1) (λ q=>V (m=q) (b 7 l) o))) o)))))))))))))) (b 0 e)) ?_;dsimp only[aQ,aR,eQ,C,ΦE,ΦF,L,N,ΦQ,ΦR,ΦX,ΦY,O,V,J];refine⟨λ d E _=>0<=d/\d<=a.sn/\∃l,E=kY l/\oW x.ex cols [] x.set=oW x.ex cols l (x.set.drop d.toNat),λ d _=>a.sn-d.toNat,y' ⟨[],rfl,rfl⟩,?_⟩;rintro H1 c d E ⟨q,d1,l,rfl,b⟩;dsimp only;simp only[aad,aaf];refine⟨λ f=>?_,λ m=>?_⟩
 .obtain⟨F,T,_,n,rfl,q1,q2⟩:=t.at c q f;have g:=D.set _ (aan F);rw[ak q F,oW]at b;generalize x.set[d.toNat]=y at*;have e:iy cols y.col=true->8=oW x.ex cols [] x.set:=λ h=>by grind
  refine⟨T,q,f,_,_,n,λ s=>e (by simp[iy,s]),λ s=>⟨λ A=>e (by simp[iy,U,A]),λ A=>?_⟩⟩;obtain⟨hy,M,_,j,rfl,r3⟩:=u.at (i:=y.col) c (by omega) (by omega);refine⟨M,y' ⟨_,j,λ g3=>e (by rw[iy];grind),λ g3=>?_⟩⟩;rw[if_neg (by rw[Ep s (by omega) (by grind)];simp)]at b;have Y:(kY l).length=12:=by rfl
  refine y' ⟨_,by rw[Nat.mul_one];exact VI (vA (by omega) (by omega)),λ B=>?_,λ B=>J' ?_⟩
  .grind
  rw[if_neg (aac B)]at b;refine⟨_,uf (G.ex.mono c) (u.mono c) D.ex g.1 g.2,?_⟩;rintro H2 o w er R;rw[<-R]at b;dsimp only at b;refine⟨λ h=>?_,λ h=>?_⟩
  .grind
  have h0:=aab (np h);rw[if_neg (by omega)]at b;have go:¬(w≠0/\w≠cols.getD _ 0)->ae .i64 (d+1)/\(0<=d+1/\d+1<=a.sn/\∃k,av (kY _) (y.col.toNat*1) _=kY k/\oW _ _ _ _=oW _ _ k _)/\a.sn-(d+1).toNat<a.sn-d.toNat:=λ W=>by
   rw[if_neg W]at b;exact u' ⟨y' ⟨_,by rw[Nat.mul_one];exact No (by omega) (by omega),b⟩,by omega⟩
  refine⟨λ Z=>⟨M,y' ⟨_,j.mono o,λ Q=>?_,λ Q=>go ?_⟩⟩,λ Z=>go ?_⟩
  .grind
  .grind
  grind
 .rw[ai m X]at b;rw[b];rfl
end
def Hk:Xp:=⟨1,0,0,0,⟨3,1,⟨⟨[]⟩⟩⟩⟩
def gO (x:Ed):List Xp:=if x.pred= -1 then x.ex++[Hk]else x.ex
def jU (x:Ed):Int:=if x.pred= -1 then x.ex.length else x.pred
def CF {A:D'}{n c r:Nat}{l:List Xp}(d:Sl b A n c l):
  ZB 261 [.slice A n c] b ⟨false,[(false,[.row r 142])]⟩ (λ m j p=>m=l.length/\Row p j l):=by
 refine ΦK 0 bE (λ a=>ΦQ (Option.isNone A) (a 0 [] b) (∃c:G',Cells b A 0 c/\L c=n*7/\(0+n)*64<=M/\a (0+n) ([]++c) b)) ?_;dsimp only[L,M,ΦQ];refine⟨λ q=>?_,λ q=>?_⟩
 .have k:n=0:=by
   rcases abl n with h | h
   .grind
   .obtain⟨a,o,e⟩:=d.cD h;grind
  subst k;have:=aal d.len;subst this;exact⟨rfl,rfl⟩
 .obtain⟨f,i,g⟩:=d.row;refine⟨f,i,by rw[g.length,d.len];rfl,by have:=d.bnd;rw[aaT];omega,by rw[aaT];exact d.len.symm,by grind⟩
def CG:Rep.rel b [Φi 1,Φi 0,Φi 0,Φi 0,Φi 3,Φi 1,.string ⟨⟨[]⟩⟩] Hk:=⟨rfl,by decide,by decide,by decide,by decide,qT (by decide) (by decide)⟩
def CH {a:Iq}{x:Ed}(g:qj b a x)(q:x.ex.length<=200):ZB 202 [.agg ⟨a.v⟩] b TO (λ k i j r o=>Sl o k i j (gO x)/\r=jU x):=by
 have m:=g.pred;have d:=g.ex;refine ΦK 1 {aj [] [(2,[2,4,6,8,10,12,0]),(4,[2,4,8,14,16,18,7,11,13,20,22,0,1,1,11,7,13,20,22,0])] []with res:=wj [(16,⟨false,[(false,[.row 23 142])]⟩)]} (λ c=>V (a.ep=-1) (c a.xa a.xn a.xc a.ep b) (let d:=C YM 261 [S a.xa a.xn a.xc] b λ d e f=>(e+1)*64<=M/\U d (f++[Value.int .i64 1,I 0,I 0,I 0,I 3,I 1,ΦT ⟨⟨[]⟩⟩]) (e+1) λ g h i=>c g (e+1) h (O a.xn) i;d/\d)) ?_;dsimp only[aQ,aR,C,M,O,V];have w:=d.len;rw[m];refine⟨λ h=>?_,λ h=>?_⟩
 .have h:=aac (oL h);exact⟨by rw[gO];grind,by rw[jU,if_neg h]⟩
 have h:=aab (np h);rw[gO,jU,if_pos h];refine⟨⟨_,CF d,?_⟩,⟨_,CF d,?_⟩⟩;all_goals
  rintro t n p u ⟨rfl,l⟩;refine u' λ z s y c e f=>⟨(l.append (Row.one CG)).sl c e (by simp) f (by show _*64<=_;omega) (by omega),by grind⟩
end
end Go.Vc
namespace Go.Vc
open Go
def wQ {T:Type}(p:T->Bool):∀(a:List T) (x:T) (r:List T) (i:Int),p x=true->(idxOf p i (a++x::r)=i+a.length↔a.any p=false)
 |[],x,r,i,h=>by simp[idxOf,h]
 | y::a,x,r,i,h=>by
  have b:=wQ p a x r (i+1) h;simp[idxOf];grind
def Sv (k:Int):de k=(decide (1<=k)&&decide (k<=3)):=by
 rw[aaH];simp[de];omega
def Lr:∀(r b:List cz) (a:Int) (p:Option Int),0<=a->(∀x,p=some x->x=a)->(p=none->a=0)->
  fU a b r=sM (b++r) b.length p r
 |[],_,_,_,_,_,_=>by rfl
 | c::r,b,a,p,h0,hp,hn=>by
  rw[wO,fU];have d:=wQ (λ o=>decide (o.name=c.name)) b c r 0 (by simp);simp only[Int.zero_add]at d;have e:=Lr r (b++[c]) c.id (some c.id);by_cases g:a<c.id
  .have e:=e (by omega) (by simp) (by simp);rw[e,aat,aae];have f:((b.length:Int)+1)=((b.length+[c].length:Nat):Int):=by simp
   rw[Sv];grind
  grind
def gk (v:dh):Bn v=(dm v.rc&&aB v.cols):=by
 unfold Bn aB;rw[Lr _ _ 0 none (by simp) (by simp) (by simp)];grind
def qZ:∀(r:List cz) (d:Int) (e:List cz),fU d e r=true->(∀c∈r,d<c.id)/\r.Pairwise (λ a b=>a.id≠b.id)
 |[],_,_,_=>N' (by simp)
 | c::r,d,e,h=>by
  simp[fU,aay]at h;obtain⟨⟨⟨⟨⟨m,k⟩,o⟩,l⟩,n⟩,f⟩:=h;obtain⟨j,g⟩:=qZ r _ _ f;refine⟨λ x i=>?_,?_⟩
  .grind
  .refine aaz.2 ⟨λ x i=>?_,g⟩;grind
def fA:∀(l:List cz) (w:Int),w<=aF w l/\∀c∈l,c.id<=aF w l
 |[],w=>⟨by simp[aF],by simp⟩
 | c::r,w=>by
  obtain⟨a,b⟩:=fA r (max w c.id);simp[aF];grind
def rY:∀(l:List cz) (w:Int),aF w l=w\/∃c∈l,c.id=aF w l
 |[],w=> .inl rfl
 | c::r,w=>by
  rcases rY r (max w c.id)with h |⟨x,b,a⟩
  .simp[aF];grind
  .exact .inr ⟨x,T' a⟩
def ke (i g:Int)(f a:List Int)(b:List cz)(c:cz):Prop:=
 if f.getD c.id.toNat 0=0 then¬(0<i/\c.id<=g)else a.getD c.id.toNat 0=i/\b.getD c.id.toNat lB=c
def ij {T:Type}{l:List T}{a b:Nat}{x d:T}(h:a≠b):(l.set a x).getD b d=l.getD b d:=by
 grind
def kx {T:Type}{l:List T}{a:Nat}{x d:T}(h:a<l.length):(l.set a x).getD a d=x:=by
 grind
def rZ (i g:Int):∀(e:List cz) (f l:List Int) (n:List cz) (m:Int),f.length=13->l.length=13->n.length=13->(∀c∈e,1<=c.id/\c.id<=12)->e.Pairwise (λ a b=>a.id≠b.id)->
  ((∀c∈e,ke i g f l n c)->∃s j h,dP i g f l n m e=some (s,j,h,aF m e)/\s.length=13/\j.length=13/\h.length=13/\
   (∀x:Int,0<=x->x<=12->(∀c∈e,c.id≠x)->s.getD x.toNat 0=f.getD x.toNat 0/\j.getD x.toNat 0=l.getD x.toNat 0/\h.getD x.toNat lB=n.getD x.toNat lB)/\
   (∀c∈e,(i+1≠0->s.getD c.id.toNat 0≠0)/\j.getD c.id.toNat 0=i+1/\h.getD c.id.toNat lB=c))/\
  ((∃c∈e,¬ke i g f l n c)->dP i g f l n m e=none)
 |[],f,l,n,m,h1,h2,h3,_,_=>⟨λ _=>⟨f,l,n,rfl,h1,h2,h3,λ _ _ _ _=>⟨rfl,rfl,rfl⟩,by simp⟩,by simp⟩
 | c::r,f,l,n,m,h1,h2,h3,hid,hpw=>by
  obtain⟨E,M⟩:=aaz.1 hpw;obtain⟨c1,c2⟩:=hid c (by simp);have w:∀x∈r,1<=x.id/\x.id<=12:=λ x o=>hid x (by simp[o]);have D:∀(z:List Int) (p:List cz),z.length=13->p.length=13->(∀y:Nat,y≠c.id.toNat->z.getD y 0=f.getD y 0/\p.getD y lB=n.getD y lB)->(i+1≠0->z.getD c.id.toNat 0≠0)->p.getD c.id.toNat lB=c->
    ((∀x∈r,ke i g f l n x)->∃s j h,dP i g z (l.set c.id.toNat (i+1)) p (max m c.id) r=some (s,j,h,aF (max m c.id) r)/\s.length=13/\j.length=13/\h.length=13/\
     (∀x:Int,0<=x->x<=12->(∀d∈c::r,d.id≠x)->s.getD x.toNat 0=f.getD x.toNat 0/\j.getD x.toNat 0=l.getD x.toNat 0/\h.getD x.toNat lB=n.getD x.toNat lB)/\
     (∀d∈c::r,(i+1≠0->s.getD d.id.toNat 0≠0)/\j.getD d.id.toNat 0=i+1/\h.getD d.id.toNat lB=d))/\
    ((∃x∈r,¬ke i g f l n x)->dP i g z (l.set c.id.toNat (i+1)) p (max m c.id) r=none):=by
   intro z p l1 Z t P C;have v:∀x∈r,ke i g z (l.set c.id.toNat (i+1)) p x↔ke i g f l n x:=by
    intro x o;have q:x.id.toNat≠c.id.toNat:=by have:=E x o;have:=w x o;omega
    obtain⟨Q,K⟩:=t _ q;unfold ke;rw[Q,K,ij (abu q)]
   obtain⟨I,N⟩:=rZ i g r z (l.set c.id.toNat (i+1)) p (max m c.id) l1 (by simpa using h2) Z w M;refine⟨λ k=>?_,λ ⟨x,o,u⟩=>N ⟨x,o,λ hh=>u ((v x o).1 hh)⟩⟩;obtain⟨s,j,h,W,Q,K,e3,U,X⟩:=I λ x o=>(v x o).2 (k x o);refine⟨s,j,h,W,Q,K,e3,λ x V L o=>?_,λ d B=>?_⟩
   .obtain⟨R,S,J⟩:=U x V L λ d B=>o d (by simp[B]);have q:x.toNat≠c.id.toNat:=by have:=o c (by simp);omega
    obtain⟨Y,b2⟩:=t _ q;exact⟨R.trans Y,S.trans (ij (abu q)),J.trans b2⟩
   .rcases aaw.1 B with rfl | B
    .obtain⟨R,S,J⟩:=U d.id (by omega) c2 λ x o=>abu (E x o);refine⟨λ O=>?_,?_,J.trans C⟩
     .rw[R];exact P O
     .rw[S,kx (by omega)]
    .exact X d B
  rw[dP];by_cases G:f.getD c.id.toNat 0=0
  .rw[if_pos G];have F:ke i g f l n c↔¬(0<i/\c.id<=g):=by unfold ke;rw[if_pos G]
   by_cases A:0<i/\c.id<=g
   .rw[if_pos A];exact⟨λ k=>absurd A (F.1 (k c (by simp))),λ _=>rfl⟩
   .rw[if_neg A];obtain⟨H,k2⟩:=D (f.set c.id.toNat (i+1)) (n.set c.id.toNat c) (by simpa using h1) (by simpa using h3) (λ y T=>⟨ij (abu T),ij (abu T)⟩)
     (λ O=>by rw[kx (by omega)];exact O) (kx (by omega))
    refine⟨λ k=>H λ x o=>k x (by grind),λ ⟨x,o,u⟩=>?_⟩;grind
  .rw[if_neg G];have F:ke i g f l n c↔(l.getD c.id.toNat 0=i/\n.getD c.id.toNat lB=c):=by unfold ke;grind
   by_cases A:l.getD c.id.toNat 0=i/\n.getD c.id.toNat lB=c
   .rw[if_pos A];obtain⟨H,k2⟩:=D f _ h1 h3 (λ y _=>⟨rfl,rfl⟩) (λ _=>G) A.2;refine⟨λ k=>H λ x o=>k x (by grind),λ ⟨x,o,u⟩=>?_⟩;grind
   grind
structure Sw (i g:Int)(p:Option dh)(f la:List Int)(co:List cz):Prop where
 lf:f.length=13
 lla:la.length=13
 lco:co.length=13
 i0:0<=i
 none:p=none->i=0/\∀x:Int,0<=x->x<=12->f.getD x.toNat 0=0
 zero:∀a,p=some a->0<i
 big:∀x:Int,1<=x->x<=12->f.getD x.toNat 0≠0->x<=g
 inn:∀a,p=some a->∀c∈a.cols,f.getD c.id.toNat 0≠0/\la.getD c.id.toNat 0=i/\co.getD c.id.toNat lB=c
 out:∀a,p=some a->∀x:Int,1<=x->x<=12->(∀c∈a.cols,c.id≠x)->la.getD x.toNat 0≠i
 le:∀x:Int,0<=x->x<=12->la.getD x.toNat 0<=i
def vC {i g:Int}{p:Option dh}{f n:List Int}{o:List cz}(h:Sw i g p f n o){c:cz}(l:1<=c.id)(m:c.id<=12):
  ke i g f n o c↔(match(generalizing:=false) p with | none=>True | some a=>bI a.cols g c=true):=by
 cases p with
 | none=>
  obtain⟨e,t⟩:=h.none rfl;unfold ke;grind
 | some a=>
  have u:=h.zero a rfl;unfold bI ke;cases r:a.cols.find? (λ d=>decide (d.id=c.id))with
  | none=>
   have b:∀d∈a.cols,d.id≠c.id:=λ d k=>by grind
   have q:=h.out a rfl _ l m b;split
   .grind
   .rename_i j;have:=h.big _ l m j;grind
  | some d=>
   have k:=adw r;obtain⟨v,w,s⟩:=h.inn a rfl d k;grind
def Er:∀(l:List dh) (i g:Int) (p:Option dh) (f t:List Int) (u:List cz),Sw i g p f t u->(∀v∈l,aB v.cols=true)->
  (jD i g f t u l=true↔(∀(k:Nat) (G:k<l.length),match(if k=0 then p else l[k-1]?)with | none=>True | some a=>l[k].cols.all (bI a.cols (aS g (l.take k)))=true))
 |[],i,g,p,f,t,u,_,_=>by simp[jD]
 | v::r,i,g,p,f,t,u,h,hv=>by
  have q:=hv v (by simp);simp only[aB,aah]at q;obtain⟨F,s⟩:=qZ _ _ _ q.2;have b:=mP _ _ _ (by omega) q.2;obtain⟨R,Y⟩:=rZ i g v.cols f t u g h.lf h.lla h.lco b s;have B:(∀c∈v.cols,ke i g f t u c)↔(match(generalizing:=false) p with | none=>True | some a=>v.cols.all (bI a.cols g)=true):=by
   cases p with
   | none=>exact⟨λ _=>trivial,λ _ c d=>(vC h (b c d).1 (b c d).2).2 trivial⟩
   | some a=>
    simp only[aaG];exact⟨λ H c d=>(vC h (b c d).1 (b c d).2).1 (H c d),λ H c d=>(vC h (b c d).1 (b c d).2).2 (H c d)⟩
  rw[rT];by_cases m:∀c∈v.cols,ke i g f t u c
  .obtain⟨L,z,y,N,S,P,T,I,K⟩:=R m;rw[N];have E:Sw (i+1) (aF g v.cols) (some v) L z y:=by
    have X:=h.i0;refine⟨S,P,T,by omega,by simp,λ _ _=>by omega,λ x M n D=>?_,λ a C c d=>?_,λ a C x M n D=>?_,λ x J n=>?_⟩
    .by_cases j:∃c∈v.cols,c.id=x
     .obtain⟨c,d,rfl⟩:=j;exact(fA v.cols g).2 c d
     .have o:∀c∈v.cols,c.id≠x:=λ c d e=>j ⟨c,d,e⟩;rw[(I x (by omega) n o).1]at D;have:=h.big x M n D;have:=(fA v.cols g).1;omega
    .simp only[acf]at C;subst C;obtain⟨V,W,O⟩:=K c d;exact⟨V (by omega),W,O⟩
    .simp only[acf]at C;subst C;rw[(I x (by omega) n D).2.1];have:=h.le x (by omega) n;omega
    .by_cases j:∃c∈v.cols,c.id=x
     .obtain⟨c,d,rfl⟩:=j;rw[(K c d).2.1];omega
     .have o:∀c∈v.cols,c.id≠x:=λ c d e=>j ⟨c,d,e⟩;rw[(I x J n o).2.1];have:=h.le x J n;omega
   have U:=Er r (i+1) (aF g v.cols) (some v) L z y E (λ w Q=>hv w (by simp[Q]));simp only;rw[U];constructor
   .intro A k G;cases k with
    | zero=>simpa[aS]using B.1 m
    | succ k=>
     have:=A k (by simpa using G);simp only[acz,acY,adx,aeN,acF,acm,acy,aS];grind
   .intro A k G;have:=A (k+1) (by grind);simp[aS]at this;grind
  .constructor
   .grind
   .intro A;have:=A 0 (by simp);exact absurd (B.2 (by simpa[aS]using this)) m
section
variable {a:List dh}
def vD:∀(l:List dh) (p:Option dh) (g:Int),fG p g l=true↔∀(k:Nat) (b:k<l.length),Bn l[k]=true/\(match(if k=0 then p else l[k-1]?)with | none=>True | some a=>follows a l[k] (aS g (l.take k))=true)
 |[],p,g=>by simp[fG]
 | v::r,p,g=>by
  rw[eY,aah,aah,vD r _ _];constructor
  .rintro⟨⟨d,c⟩,e⟩ k b;cases k with
   | zero=>
    refine⟨d,?_⟩;cases p with
    | none=>simp
    | some a=>simpa[aS]using c
   | succ k=>
    simp[aS];grind
  .intro h;refine⟨⟨(h 0 (by simp)).1,?_⟩,λ k b=>?_⟩
   .have:=(h 0 (by simp)).2;cases p with
    | none=>rfl
    | some a=>simpa[aS]using this
   .have:=h (k+1) (by grind);simp[aS]at this;grind
def zP:∀(l:List dh) (p:Option dh),iO (p.map (·.rc.hi)) l=true↔∀(k:Nat) (b:k<l.length),dm l[k].rc=true/\(match(if k=0 then p else l[k-1]?)with | none=>True | some a=>l[k].rc.lo=a.rc.hi)
 |[],p=>by simp[iO]
 | v::r,p=>by
  have c:=zP r (some v);rw[wE,aah,aah,show(some _)=(some v).map (·.rc.hi)from rfl,c];constructor
  .grind
  .intro h;refine⟨⟨(h 0 (by simp)).1,?_⟩,λ k b=>?_⟩
   .have:=(h 0 (by simp)).2;grind
   .have:=h (k+1) (by grind);grind
def VJ:Sw 0 0 none (List.replicate 13 0) (List.replicate 13 0) (List.replicate 13 lB):=by
 have z:∀x:Nat,(List.replicate 13 (0:Int)).getD x 0=0:=λ x=>by
  grind
 exact⟨rfl,rfl,rfl,by simp,λ _=>⟨rfl,λ x _ _=>z _⟩,by simp,λ x _ _ h=>absurd (z _) h,by simp,by simp,λ x _ _=>by grind⟩
def Sx (l:List dh):(iO none l&&(l.all λ v=>aB v.cols)&&ic l)=fG none 0 l:=by
 rw[aaH,aah,aah,aaG,vD,show(none)=(none).map _ from rfl,zP];constructor
 .rintro⟨⟨e,c⟩,g⟩ k b;have g:=(Er l 0 0 _ _ _ _ VJ c).1 g k b;obtain⟨i,j⟩:=e k _;refine⟨by rw[gk,i,c _ (aan _)];rfl,?_⟩;cases f:(if k=0 then none else l[k-1]?)with
  | none=>simp
  | some a=>
   simp;rw[follows];grind
 .intro h;have d:∀v∈l,aB v.cols=true:=λ v d=>by
   obtain⟨k,b,rfl⟩:=aaM d;have:=(h k b).1;rw[gk]at this;grind
  refine⟨⟨λ k b=>?_,d⟩,(Er l 0 0 _ _ _ _ VJ d).2 λ k b=>?_⟩
  .obtain⟨e,c⟩:=h k b;rw[gk]at e;cases f:(if k=0 then none else l[k-1]?)with
   | none=>grind
   | some a=>
    simp[follows]at c;grind
  .obtain⟨e,c⟩:=h k b;cases f:(if k=0 then none else l[k-1]?)with
   | none=>simp
   | some a=>
    simp[follows]at c;grind
def Ls:∀(r:List Int) (s:List Bool) (a:List Int),s.length=13->(∀x:Int,1<=x->x<=12->s.getD x.toNat false=a.contains x)->sI s r=(gj a r&&mU r)
 |[],s,a,_,_=>rfl
 | x::r,s,a,hl,hs=>by
  rw[sI,gj,mU,abr,<-mU];by_cases b:1<=x/\x<=12
  .have c:hJ x=true:=by simp[hJ,b]
   rw[Ls r _ (a++[x]) (by grind) _,aau b.1]
   .grind
   grind
  .have c:hJ x=false:=by simp[hJ];omega
   grind
def qo (l:List Int):bT l=(distinct l&&mU l):=by
 refine Ls l _ _ rfl λ x _ _=>?_;grind
def Sy {b:List Int}(g:a≠[])(f:(a.all λ v=>aB v.cols)=true)(d:permanent a b=true):mU b=true:=by
 obtain⟨v,r,rfl⟩:=adr g;simp only[permanent,abr,aah]at d;refine aaG.2 λ x i=>?_;have:=aaG.1 d.1 x i;obtain⟨c,h,e⟩:=abD.1 this;have:=oe f v (by simp) c h;grind
def vE {ids:List Int}(c:a≠[])(b:(a.all λ v=>aB v.cols)=true):(bT ids&&permanent a ids)=(distinct ids&&permanent a ids):=by
 rw[qo];cases h:permanent a _ with
 | false=>simp
 | true=>rw[Sy c b h];simp
def VK (c:a≠[])(b:(a.all λ v=>aB v.cols)=true)(f:nz):lR a f=Ot a f:=by
 unfold lR Ot;rw[qo f.refs];have:=vE c b (ids:=f.cols);grind
def Ug (c:a≠[])(b:(a.all λ v=>aB v.cols)=true)(f:Rs):jE a f=vB a f:=by
 unfold jE vB;have:=vE c b (ids:=f.cols);grind
def uh (s:bp):aw s=mV s:=by
 unfold aw mV;rw[<-Sx,fy];by_cases c:eV s.vers=true
 .have b:s.vers≠[]:=by intro e;simp[e,eV]at c
  by_cases a:(s.vers.all λ v=>aB v.cols)=true
  .have d:(s.fks.all λ f=>lR s.vers f)=s.fks.all (Ot s.vers):=by
    congr 1;funext f;exact VK b a f
   have g:(s.csts.all λ f=>jE s.vers f)=s.csts.all (vB s.vers):=by
    congr 1;funext f;exact Ug b a f
   have:=vE b a (ids:=s.key);grind
  grind
 grind
end
def oq:∀(l:List dh) (w:Int),w<=aS w l/\∀v∈l,∀c∈v.cols,c.id<=aS w l
 |[],w=>⟨abt _,λ _ h=>by grind⟩
 | v::r,w=>by
  have h:=oq r (aF w v.cols);have a:=fA v.cols w;unfold aS;grind
def wR:∀(l:List dh) (w:Int),aS w l=w\/∃v∈l,∃c∈v.cols,c.id=aS w l
 |[],w=> .inl rfl
 | v::r,w=>by
  unfold aS;rcases wR r (aF w v.cols)with h |⟨u,d,c,b,h⟩
  .rcases rY v.cols w with a |⟨c,b,a⟩
   .grind
   grind
  grind
def iR {l:List cz}{x:Int}:dq l x=true↔∃c∈l,c.id=x:=by simp[dq]
def Qj {l:List dh}(h:fG none 0 l=true){k:Nat}(a:k+1<l.length):follows l[k] l[k+1] (aS 0 (l.take (k+1)))=true:=by
 have:=((vD l _ 0).1 h _ a).2;grind
def JL {l:List dh}(h:fG none 0 l=true){k:Nat}(m:k+1<l.length){x:Int}(p:dq l[k+1].cols x=true){j:Nat}(q:j<=k)(a:dq l[j].cols x=true):dq l[k].cols x=true:=by
 have b:=Qj h m;simp only[follows,aah]at b;obtain⟨c,o,rfl⟩:=iR.1 p;obtain⟨d,i,n⟩:=iR.1 a;have:=aaG.1 b.2 c o;unfold bI at this;split at this
 .have g:=(oq (l.take (k+1)) 0).2 _ (ady.2 ⟨j,by omega,by rfl⟩) d i;grind
 .rename_i e f;have g:=List.find?_some f;exact iR.2 ⟨e,adw f,aab g⟩
def CI {s:bp}(h:aw s=true):fG none 0 s.vers=true/\eV s.vers=true:=by
 rw[uh]at h;simp[mV]at h;grind
def Qk {s:bp}(h:aw s=true){x:Int}{v:dh}(m:s.vers.getLast?=some v)(n:dq v.cols x=true):
  fresh s x=(match s.vers[s.vers.length-2]? with | none=>true | some p=>decide (s.vers.length<2)|| !dq p.cols x):=by
 have g:=(CI h).1;have b:=bF h;have c:=aaP.2 b;rw[aai (by omega)];unfold fresh;by_cases e:s.vers.length<2
 .have:s.vers.dropLast.length=0:=by grind
  grind
 rw[aao e];rw[aaH,aaG];constructor
 .intro a;refine a _ (aec.2 ⟨s.vers.length-2,by grind,?_⟩);simp
 .intro l u i;obtain⟨j,f,rfl⟩:=aec.1 i;rw[adq]at f;rw[List.getElem_dropLast];cases d:dq _ x with
  | false=>rfl
  | true=>
   have:=JL g (k:=s.vers.length-2) (by omega) (x:=x) (by
    grind) (j:=j) (by omega) d
   grind
section
variable {a:List cz}
def gl (a:Int)(b r:List cz)(c:cz):fU a b (c::r)=true↔(a<c.id/\c.id<=12/\dH c.name=true/\de c.kind=true/\∀o∈b,o.name≠c.name)/\fU c.id (b++[c]) r=true:=by
 simp[fU];grind
def Np {l:List cz}(h:a.Sublist l):∀(c d:Int) (e f:List cz),c<=d->(∀o∈e,o∈f)->fU d f l=true->fU c e a=true:=by
 induction h with
 | slnil=>intro _ _ _ _ _ _ _;rfl
 | cons b _ q=>
  intro c d e f t i g;obtain⟨⟨s,r,k,p,m⟩,j⟩:=(gl ..).1 g;grind
 | cons_cons b _ q=>
  intro c d e f t i g;obtain⟨⟨s,r,k,p,m⟩,j⟩:=(gl ..).1 g;refine(gl ..).2 ⟨(u' ⟨r,k,p,λ o n=>m o (i o n)⟩),q b.id b.id _ _ (abt _) (λ o n=>?_) j⟩;grind
def zR {c:cz}(f:c.id<=12)(i:dH c.name=true)(g:de c.kind=true):∀(l:List cz) (a:Int) (b:List cz),fU a b l=true->(∀d∈l,d.id<c.id)->a<c.id->
  (∀o∈b,o.name≠c.name)->(∀o∈l,o.name≠c.name)->fU a b (l++[c])=true
 |[],a,b,_,_,h2,h3,_=>(gl ..).2 ⟨⟨h2,f,i,g,h3⟩,rfl⟩
 | d::r,a,b,h,h1,h2,h3,h4=>by
  obtain⟨⟨p,s,q,k,n⟩,m⟩:=(gl ..).1 h;refine(gl ..).2 ⟨⟨p,s,q,k,n⟩,zR f i g r _ _ m (λ e t=>h1 e (by grind)) (h1 d (by simp)) (λ o j=>?_) (λ o j=>h4 o (by grind))⟩;grind
def qq (p:Option dh):List dh->Option dh
 |[]=>p
 | v::r=>qq (some v) r
def ky:∀(l m:List dh) (p:Option dh) (g:Int),fG p g (l++m)=(fG p g l&&fG (qq p l) (aS g l) m)
 |[],m,p,g=>by rfl
 | v::r,m,p,g=>by
  rw[aby,eY,eY,ky r m,qq,aS];grind
def qt:∀(l m:List dh) (g:Int),aS g (l++m)=aS (aS g l) m
 |[],m,g=>rfl
 | v::r,m,g=>by rw[aby,aS,aS,qt r m]
def zS:∀(l:List dh) (p:Option dh) (v:dh),qq p l=some v->p=some v\/v∈l
 |[],p,v,h=> .inl h
 | u::r,p,v,h=>by
  rcases zS r _ v h with h | h
  .grind
  grind
def Nq (h:a.Pairwise (λ e b=>e.id≠b.id)){c:cz}(j:c∈a):a.find? (λ d=>decide (d.id=c.id))=some c:=by
 induction a with
 | nil=>grind
 | cons d r f=>
  obtain⟨i,g⟩:=aaz.1 h;grind
structure Ql (v:dh)(init:List dh)(cols:List cz):Prop where
 valid:aB cols=true
 ef:∀c∈cols,c∈v.cols\/aF (aS 0 init) v.cols<c.id
def wS {b v:dh}{g w:Int}(h:follows b v g=true)(i:g<=w)(j:∀c∈b.cols,c.id<=g)(e:∀c∈a,c∈v.cols\/w<c.id){x:Int}:follows b ⟨⟨v.rc.lo,x⟩,a⟩ g=true:=by
 simp only[follows,aah]at h⊢;refine⟨h.1,aaG.2 λ c f=>?_⟩;rcases e c f with d | d
 .grind
 .unfold bI;grind
def JM {d:List dh}{v:dh}{x:Int}(h:fG none 0 (d++[v])=true)(k:Ql v d a)(r:v.rc.hi=1099511627776)(t:v.rc.lo<=x)(u:x<1099511627776):
  fG none 0 (bf (d++[v]) a x)=true/\eV (bf (d++[v]) a x)=true:=by
 rw[ky,aah]at h;obtain⟨n,i⟩:=h;simp[fG,acH]at i;obtain⟨i,f⟩:=i;rw[gk,aah]at i;obtain⟨o,p⟩:=i;have q:=oq d 0;have j:=fA v.cols (aS 0 d);have e:∀b,qq none d=some b->∀c∈b.cols,c.id<=aS 0 d:=by
  intro b s c l;rcases zS _ _ _ s with h | h
  .grind
  grind
 have g:=qZ v.cols 0 [] (by simp[aB]at p;grind);unfold bf;rw[aed];dsimp only;rw[aea];split
 .rw[ky,n,eY,gk];simp[fG,aaY];refine⟨⟨⟨o,k.valid⟩,?_⟩,?_⟩
  .revert f e;cases qq none d with
   | none=>simp
   | some b=>
    intro f e;exact wS (x:=v.rc.hi) f j.1 (e b rfl) k.ef
  .rw[eV];grind
 .simp[dm,aah]at o;refine⟨?_,?_⟩
  .rw[ky,n,eY,eY,gk,gk];simp[fG,aaY];refine⟨⟨⟨?_,p⟩,?_⟩,⟨?_,k.valid⟩,?_⟩
   .simp[dm,aah];omega
   .revert f e;cases qq none d with
    | none=>simp
    | some b=>
     intro f e;exact wS f j.1 (e b rfl) (λ c l=> .inl l)
   .simp[dm,aah];omega
   .simp only[follows];refine aaG.2 λ c l=>?_;unfold bI;rcases k.ef c l with m | m
    .rw[Nq g.2 m];simp
    grind
  .rw[eV];simp
end
end Go.Vc
namespace Go.Vc
open Go Go.Proofs
section
def Bp (s:bp):Bool:=decide (s.name.size<=200)&&decide (s.vers.length<=12)&&decide (s.key.length<=20)&&decide (s.fks.length<=10)&&decide (s.csts.length<=10)&&(s.vers.all λ v=>decide (v.cols.length<=20))&&
 (s.fks.all λ f=>decide (f.cols.length<=20)&&decide (f.refs.length<=20))&&(s.csts.all λ c=>decide (c.cols.length<=20))
section
variable {H:Heap}{nm:ByteArray}{A:D'}{n c:Nat}{B:D'}{m d:Nat}{E:D'}{k e:Nat}{F:D'}{l f:Nat}{s:bp}
end
end
section
variable {a:Int}
section
variable {H:Heap}{nm:ByteArray}{A:D'}{n c:Nat}{B:D'}{m d:Nat}{E:D'}{k e:Nat}{F:D'}{l f:Nat}{s:bp}
def Hl {s:bp}(h:aw s=true){v:dh}(a:s.vers=[v]):v.rc.hi=1099511627776:=by
 have:=(CI h).2;rw[eV]at this;grind
def Es (g:aV H nm A n c B m d E k e F l f s)(hx:ae .i64 a):
  ZB 89 [.agg ⟨[.string nm,.slice A n c,.slice B m d,.slice E k e,.slice F l f]⟩,Φi a] H Ct
   (λ D A' T Y X m' d' E' k' e' F' l' f' r H'=>aV H' D A' T Y X m' d' E' k' e' F' l' f' (bt s a).1/\r=(bt s a).2):=by
 refine ΦK 0 (aj [14] [] []) (λ b=>let g:=b ⟨⟨[]⟩⟩ none 0 0 none 0 0 none 0 0 none 0 0 1 H;J (a<0) g (J (1099511627776<=a) g (C ZO 149 [ΦG [ΦT nm,S A n c,S B m d,S E k e,S F l f]] H (λ h i=>let j:=b ⟨⟨[]⟩⟩ none 0 0 none 0 0 none 0 0 none 0 0 18 h;ΦQ (!i) j (V (O n=1) j (ΦX A 0 n (ΦE ZE h A (N 0*3+0+0) (λ o=>V (o=0) j (ΦX A 0 n (ΦE ZM h A (N 0*3+2) (λ p q r=>U h [I a,I 1099511627776,S p q r] 1 λ s t u=>b nm s 1 t B m d E k e F l f 0 u))))))))))) ?_;dsimp only[aQ,aR,eQ,C,ΦE,N,ΦQ,ΦX,O,V,J];unfold bt;have b2:=g.vers.len;refine⟨λ h=>?_,λ h=>⟨λ o=>?_,λ o=>⟨_,qn g,?_⟩⟩⟩
 .rw[if_pos (.inl (aab h))];exact⟨ba,rfl⟩
 .rw[if_pos (.inr (aab o))];exact⟨ba,rfl⟩
 have h:=aac h;have o:=aac o;rw[if_neg (by omega),<-uh];rintro H1 Q _ rfl;refine⟨λ w=>?_,λ L=>?_⟩
 .simp at w;rw[if_pos w];exact⟨ba,rfl⟩
 simp at L;rw[if_neg (by grind)];refine⟨λ y=>?_,λ y=>?_⟩
 .split
  .grind
  .exact⟨ba,rfl⟩
 have y:s.vers.length=1:=by grind
 match hv:s.vers,y with
 |[v],_=>
  have q:=Hl L hv;obtain⟨hi,M,_,j,b⟩:=g.vers.at Q (i:=0) (by simp) (by omega);have R:s.vers[(0:Int).toNat]=v:=by grind
  rw[R]at b;obtain⟨Z,n1,c1,rfl,r1,r2,W⟩:=b;refine⟨M,by simp,by omega,_,j.cy (k:=0) rfl,λ w=>?_,λ u=>?_⟩
  .dsimp only;rw[if_neg (λ hh=>by grind)];exact⟨ba,rfl⟩
  .have u:v.rc=⟨0,1099511627776⟩:=by
    generalize v.rc=z at u q;cases z;grind
   dsimp only;rw[if_pos u];refine⟨M,by simp,by omega,_,_,_,j.cy (k:=2) rfl,?_⟩;intro A3 c3 H3 P g3 G;have p:=aa Q P;refine⟨⟨g.name,g.str,?_,g.key.mono p,g.fks.mono p,g.csts.mono p⟩,rfl⟩;exact qg (t:=(⟨⟨a,v.rc.hi⟩,v.cols⟩:dh)) g3 (ah _) G ⟨Z,n1,c1,by grind,hx,T' (W.mono P)⟩ (by decide)
def zQ (o:aV H nm A n c B m d E k e F l f s):
  ZB 91 [.agg ⟨[.string nm,.slice A n c,.slice B m d,.slice E k e,.slice F l f]⟩,Φi a] H ⟨true,[(true,[.int .i64,.int .i64,.sl]),(false,[.bool])]⟩
   (λ g b G u z r P=>r=cg s a/\(r=true->∃v,s.vers.getLast?=some v/\g=v.rc.lo/\b=v.rc.hi/\ae .i64 g/\ae .i64 b/\Sl P G u z v.cols)):=by
 refine ΦK 0 (aj [8] [(4,[2,4,6,8,10,12,15,16,0])] []) (λ b=>C ZO 149 [ΦG [ΦT nm,S A n c,S B m d,S E k e,S F l f]] H λ g h=>ΦQ (!h) (b 0 0 none 0 0 false g) (J (1099511627776<=a) (b 0 0 none 0 0 false g) (ΦR (O n-1)/\ΦX A (O n-1) n (ΦE Xs g A (N (O n-1)*3) (λ i j o p q=>b i j o p q (decide (i<=a)) g))))) ?_;dsimp only[aQ,aR,eQ,C,ΦE,N,ΦQ,ΦR,ΦX,O,J];have Q:=o.vers.bn;have V:=o.vers.len;refine⟨_,qn o,?_⟩;rintro U M _ rfl;unfold cg;rw[<-uh];refine⟨λ h=>?_,λ q=>⟨λ h=>?_,λ h=>?_⟩⟩
 .grind
 .grind
 simp at q;have t:=aaP.2 (bF q);obtain⟨I,D,_,p,⟨R,W,T,rfl,y,L,w⟩⟩:=o.vers.at M (i:=(n)-1) (by omega) (by omega);have j:=gF _ I (by omega);rw[j];refine u' ⟨D,y' ⟨_,_,_,_,_,p,?_,λ _=>⟨_,rfl,rfl,rfl,y,L,w⟩⟩⟩;grind
def ui {C:D'}{p q:Nat}{b:List cz}(g:aV H nm A n c B m d E k e F l f s)(hc:Sl H C p q b)(Y:ae .i64 a)(Z:s.vers≠[])(hb:s.vers.length<=3000000000000):
  ZB 94 [.agg ⟨[.string nm,.slice A n c,.slice B m d,.slice E k e,.slice F l f]⟩,.slice C p q,Φi a] H Jv
   (λ G D v w B' m' d' E' k' e' F' l' f' H'=>aV H' G D v w B' m' d' E' k' e' F' l' f' {s with vers:=bf s.vers b a}):=by
 refine ΦK 0 bE (λ b=>∃c:G',Cells H A 0 c/\L c=n*3/\n*40<=M/\ΦR (O n-1)/\ΦY (O n-1) n (ΦF ZE c (N (O n-1)*3+0+0) 1 (λ g=>J (g=a) (ΦR (O n-1)/\ΦY (O n-1) n (N (O n-1)*3+2+1<=L c/\U H (av c (N (O n-1)*3+2) [S C p q]) n (λ h i j=>b nm h n i B m d E k e F l f j))) (ΦR (O n-1)/\ΦY (O n-1) n (N (O n-1)*3+0+1+1<=L c/\(n+1)*40<=M/\U H (av c (N (O n-1)*3+0+1) [I a]++[Value.int .i64 a,I 1099511627776,S C p q]) (n+1) (λ h i j=>b nm h (n+1) i B m d E k e F l f j)))))) ?_;dsimp only[eQ,ΦF,L,M,N,ΦR,ΦY,O,J];obtain⟨W,y,V⟩:=g.vers.row;have T:0<s.vers.length:=aaP.2 Z;have b1:=g.vers.bn;have b2:=g.vers.len;have Q:=g.vers.bnd;have X:((n:Int)-1).toNat<s.vers.length:=by omega
 have R:((n:Int)-1).toNat=s.vers.length-1:=by omega
 have h:=gF s.vers X R;obtain⟨vs,⟨D,v,w,rfl,P,r2,r3⟩,hw,u⟩:=V.mg X;have a0:W.length=s.vers.length*3:=V.length;have j:∀t,s.vers.set ((n:Int)-1).toNat t=s.vers.dropLast++[t]:=λ t=>by rw[R];exact Cu _ _ Z
 refine⟨W,y,by omega,Q,J' ⟨_,hw 0 1 (by decide),λ r=>M' ?_,λ r=>u' (M' ?_)⟩⟩
 .intro A2 c2 H2 i z o;have r:=aab r;have:=u 2 [.slice C p q] ⟨s.vers[((n:Int)-1).toNat].rc,b⟩ (acE rfl) ⟨C,p,q,rfl,P,r2,hc⟩;rw[j]at this;refine⟨g.name,g.str,?_,g.key.mono i,g.fks.mono i,g.csts.mono i⟩;simp only[bf,h];rw[if_pos r];exact this.sl i z (by simp;omega) o Q (by omega)
 .intro A2 c2 H2 i z o;have r:=aac r;have:=u 1 [Φi a] ⟨⟨s.vers[((n:Int)-1).toNat].rc.lo,a⟩,s.vers[((n:Int)-1).toNat].cols⟩ (acE rfl) ⟨D,v,w,rfl,P,Y,r3⟩;rw[j]at this;have:=this.append (Row.one (t:=(⟨⟨a,1099511627776⟩,b⟩:dh)) ⟨C,p,q,rfl,Y,by simp[ae],hc⟩);refine⟨g.name,g.str,?_,g.key.mono i,g.fks.mono i,g.csts.mono i⟩;simp only[bf,h];rw[if_neg r];rw[aat]at this;exact this.sl i z (by grind) o (by show _*40<=_;omega) (by omega)
def qp {s:bp}(h:aw s=true):0<=width s/\width s<=12:=by
 have b:=oe (l:=s.vers) (by simp[aw]at h;grind);unfold width;rcases wR s.vers 0 with h |⟨v,a,c,d,h⟩
 .omega
 .have:=b v a c d;omega
def xC {x a b:Int}{u:ByteArray}(hs:aV H nm A n c B m d E k e F l f s)(hu:str u)(hb:ae .i64 b)(hx:ae .i64 x)(a4:s.vers.length<=3000000000000):
  ZB 40 [.agg ⟨[.string nm,.slice A n c,.slice B m d,.slice E k e,.slice F l f]⟩,.agg ⟨[Φi a,.string u,Φi b]⟩,Φi x] H Ct
   (λ a8 A' n' c' B' m' d' E' k' e' F' l' f' r H'=>aV H' a8 A' n' c' B' m' d' E' k' e' F' l' f' (eW s ⟨a,u,b⟩ x).1/\r=(eW s ⟨a,u,b⟩ x).2):=by
 refine ΦK 0 (aj [23,40,45,49] [(13,[2,4,6,10,16,9,13,15,19,21,22,0,1,1,1,1,13,9,15,19,21,22,0])] []) (λ a=>let g:=[ΦT nm,S A n c,S B m d,S E k e,S F l f];C YK 91 [ΦG g,I x] H λ h i j o p q r=>ΦQ (!r) (a ⟨⟨[]⟩⟩ none 0 0 none 0 0 none 0 0 none 0 0 1 h) (C ZO 92 [ΦT u] h (λ s t=>ΦQ (!t) (a ⟨⟨[]⟩⟩ none 0 0 none 0 0 none 0 0 none 0 0 8 s) (let v:=a ⟨⟨[]⟩⟩ none 0 0 none 0 0 none 0 0 none 0 0 7 s;J (b<1) v (J (3<b) v (C ZP 93 [ΦG [I i,I j,S o p q],ΦT u] s (λ w y=>J (0<=y) (a ⟨⟨[]⟩⟩ none 0 0 none 0 0 none 0 0 none 0 0 9 w) (C ZP 54 [ΦG g] w (λ z a0=>J (12<=a0) (a ⟨⟨[]⟩⟩ none 0 0 none 0 0 none 0 0 none 0 0 12 z) (C ZP 54 [ΦG g] z (λ a1 a2=>ΦR (a2+1)/\let a3:=∃a3:G',Cells a1 o 0 a3/\L a3=p*3/\p*32<=M/\(p+1)*32<=M/\U a1 (a3++[Value.int .i64 (a2+1),ΦT u,I b]) (p+1) λ a4 a5 a6=>C YC 94 [ΦG g,S a4 (p+1) a5,I x] a6 λ a7 a8 a9 b0 b1 b2 b3 b4 b5 b6 b7 b8 b9 c0=>a a8 a9 b0 b1 b2 b3 b4 b5 b6 b7 b8 b9 c0 0 a7;a3/\a3))))))))))) ?_;dsimp only[aQ,aR,C,L,M,ΦQ,ΦR,J];unfold eW;refine⟨_,zQ hs,?_⟩;rintro H1 l1 p q A1 X c1 _ ⟨rfl,hv⟩;refine⟨λ T=>?_,λ ht=>?_⟩
 .simp only[aay]at T;rw[if_pos T];exact⟨ba,rfl⟩
 simp only[aaF]at ht;obtain⟨v,j,rfl,rfl,r1,r2,r3⟩:=hv ht;rw[if_neg (by grind),j];have o:aw s=true:=by simp[cg]at ht;grind
 have W:=abI j;have b0:=cZ o W;have b4:=qp o;have d1:=r3.len;have d3:=r3.bnd;dsimp only;refine⟨_,iP,?_⟩;rintro H2 l2 _ rfl;have hk:de b=false↔(b<1\/3<b):=by
  simp[de,acR];omega
 refine⟨λ T=>?_,λ h1=>⟨λ h=>?_,λ h=>⟨λ h'=>?_,λ h'=>⟨_,ql (r3.mono l2),?_⟩⟩⟩⟩
 .simp at T;rw[if_pos T];exact⟨ba,rfl⟩
 all_goals
  simp at h1;rw[if_neg (by grind)]
 .rw[if_pos (hk.2 (.inl (aab h)))];exact⟨ba,rfl⟩
 .rw[if_pos (hk.2 (.inr (aab h')))];exact⟨ba,rfl⟩
 rw[if_neg (λ hh=>by grind)];rintro H3 l3 _ rfl;rw[aad,aaf,eU _ _ _ (by simp)];have L3:=aa l1 (aa l2 l3);refine⟨λ h=>?_,λ h3=>⟨_,gG (hs.mono L3),?_⟩⟩
 .rw[if_pos h];exact⟨ba,rfl⟩
 rintro H4 l4 _ ⟨rfl,hw⟩;rw[if_neg h3];refine⟨λ h=>?_,λ h4=>⟨_,gG (hs.mono (aa L3 l4)),?_⟩⟩
 .rw[if_pos (by grind)];exact⟨ba,rfl⟩
 rintro H5 l5 _ ⟨rfl,-⟩;have L5:=aa l4 l5;have R:ae .i64 (width s+1):=by omega
 have b2:(∃(w:G'),Cells H5 A1 0 w/\List.length w=X*3/\X*32<=140737488355328/\(X+1)*32<=140737488355328/\∀(O:D') (G:Nat) (y:Heap),Heap.le H5 y->Cells y O 0 (w++[Φi (width s+1),.string u,Φi b])->X+1<=G->
   ∃(i:ByteArray->D'->Nat->Nat->D'->Nat->Nat->D'->Nat->Nat->D'->Nat->Nat->Heap->Prop),ZB 94 [.agg ⟨[.string nm,.slice A n c,.slice B m d,.slice E k e,.slice F l f]⟩,.slice O (X+1) G,Φi x] y Jv i/\
    ∀(z:Heap),Heap.le y z->∀(a5:ByteArray) (a6:D') (a0 a3:Nat) (N:D') (Q a2:Nat) (Y:D') (P Z:Nat) (D:D') (V a1:Nat),i a5 a6 a0 a3 N Q a2 Y P Z D V a1 z->
     aV z a5 a6 a0 a3 N Q a2 Y P Z D V a1 {s with vers:=bf s.vers (v.cols++[⟨width s+1,u,b⟩]) x}/\(0:Int)=0):=by
  have g:=aa l2 (aa l3 L5);obtain⟨xs,b1,hr⟩:=(r3.mono g).row;have b3:xs.length=v.cols.length*3:=hr.length;refine⟨xs,b1,by omega,d3,u' ?_⟩;intro A7 c7 H7 l7 g7 a7;have a9:=(hr.append (Row.one (t:=(⟨width s+1,u,b⟩)) ⟨rfl,R,hu,hb⟩)).sl l7 g7 (by grind) a7 (by show _*32<=_;omega) (by omega);refine⟨_,ui (hs.mono (aa L3 (aa L5 l7))) a9 hx (bF o) a4,?_⟩;simp
 grind
end
end
section
section
variable {H:Heap}{nm:ByteArray}{A:D'}{n c:Nat}{B:D'}{m d:Nat}{E:D'}{k e:Nat}{F:D'}{l f:Nat}{s:bp}
def sP {x:Int}(hs:aV H nm A n c B m d E k e F l f s):
  ZB 96 [.agg ⟨[.string nm,.slice A n c,.slice B m d,.slice E k e,.slice F l f]⟩,Φi x] H fg (λ r _=>r=used s x):=by
 refine ΦK 0 (aj [11,27,38,55] [] [(4,[ag 5]),(10,[ag 7])]) (λ a=>C ZO 42 [S B m d,I x] H λ b c=>ΦQ c (a true b) (W ZE b (λ e=>e 0 b) (λ e f g h=>let i:=λ i (j n:Nat) o (p:Int) q r=>C ZO 42 [S i j n,I x] o λ s t=>ΦQ t (a true s) (ΦR (p+1)/\q (p+1) s/\r (p+1)<r p);J (h<O k) (ΦX E h k (ΦE Xu g E (N h*3) (λ j n o p q r s=>C ZO 42 [S j n o,I x] g λ t u=>ΦQ u (a true t) (J (p=nm) (i q r s t h e f) (ΦR (h+1)/\e (h+1) t/\f (h+1)<f h))))) (W ZE g (λ j=>j 0 g) (λ j n o p=>J (p<O l) (ΦX F p l (ΦE ZM o F (N p*2+1) (λ q r s=>i q r s o p j n))) (a false o)))))) ?_;dsimp only[PL,aQ,aR,aW,eQ,C,ΦE,N,ΦQ,ΦR,W,ΦX,O,J];obtain⟨rfl,P,hv,Z,u,D⟩:=hs;have f1:=u.bn;have f2:=u.len;have c1:=D.bn;have c2:=D.len;unfold used;generalize hp:(λ f:nz=>f.cols.contains x||(decide (f.table=s.name)&&f.refs.contains x))=p;generalize hq:(λ c:Rs=>c.cols.contains x)=q;refine⟨_,dQ Z,?_⟩;rintro H0 l0 _ rfl;refine⟨λ h=>by rw[h,Bool.or_true],λ G=>?_⟩;rw[G,ade];refine⟨λ i _=>0<=i/\i<=k/\s.fks.any p=(s.fks.drop i.toNat).any p,λ i=>k-i.toNat,y' rfl,?_⟩;rintro H1 l1 i ⟨o,h1,L⟩;have R:=aa l0 l1;refine⟨λ a=>?_,λ b=>?_⟩
 .have a:=aab a;obtain⟨v,t,_,g,⟨A3,X,c3,B3,m3,d3,rfl,M,Q,U⟩⟩:=u.at R o a;rw[ak o v,aaS]at L;refine⟨t,o,a,_,_,_,_,_,_,_,g,_,dQ M,?_⟩;rintro H2 w _ rfl;have V:p s.fks[i.toNat]=(s.fks[i.toNat].cols.contains x||(decide (s.fks[i.toNat].table=s.name)&&s.fks[i.toNat].refs.contains x)):=by grind
  refine⟨λ y=>?_,λ y=>⟨λ a2=>⟨_,dQ (U.mono w),?_⟩,λ a2=>u' ⟨y' ?_,by grind⟩⟩⟩
  .grind
  .rintro Y l3 _ rfl;refine⟨λ a3=>?_,λ a3=>u' ⟨y' ?_,by dsimp only;omega⟩⟩
   .grind
   simp_all
  simp_all
 rw[ai (aac b) f2,abJ]at L;refine⟨λ i _=>0<=i/\i<=l/\s.csts.any q=(s.csts.drop i.toNat).any q,λ i=>l-i.toNat,P' rfl,?_⟩;rintro H2 w j ⟨z,j1,T⟩;have L2:=aa R w;refine⟨λ a=>?_,λ b=>?_⟩
 .have a:=aab a;obtain⟨v,t,_,g,⟨A3,X,c3,rfl,M,Q⟩⟩:=D.at L2 z a;rw[ak z v]at T;refine⟨t,z,a,_,_,_,g.cy (k:=1) rfl,_,dQ Q,?_⟩;rintro Y l3 _ rfl;refine⟨λ y=>?_,λ y=>u' ⟨y' ?_,by grind⟩⟩
  .grind
  grind
 rw[ai (aac b) c2]at T;grind
def vF {i x:Int}(z:aV H nm A n c B m d E k e F l f s)(hx:ae .i64 x)(c5:s.vers.length<=3000000000000):
  ZB 41 [.agg ⟨[.string nm,.slice A n c,.slice B m d,.slice E k e,.slice F l f]⟩,Φi i,Φi x] H Ct
   (λ d5 A' n' c' B' m' d' E' k' e' F' l' f' r H'=>aV H' d5 A' n' c' B' m' d' E' k' e' F' l' f' (bN s i x).1/\r=(bN s i x).2):=by
 refine ΦK 0 (aj [24,47,58] [(11,[2,4,6,8,10,14,16,18,20,22,26,13,25,29,31,32,0])] []) (λ a=>let b:=[ΦT nm,S A n c,S B m d,S E k e,S F l f];C YK 91 [ΦG b,I x] H λ g h j o p q r=>ΦQ (!r) (a ⟨⟨[]⟩⟩ none 0 0 none 0 0 none 0 0 none 0 0 1 g) (C ZP 95 [ΦG [I h,I j,S o p q],I i] g (λ s t=>J (t<0) (a ⟨⟨[]⟩⟩ none 0 0 none 0 0 none 0 0 none 0 0 11 s) (let u:=λ u=>(0:Int)<=0/\0<=t/\t<=O q/\∀v:D',v=eM o q (N 0) 3->ΦR (t+1)/\0<=t+1/\t+1<=O p/\O p<=O q/\∀w:D',w=eM o q (N (t+1)) 3->∃y:G',Cells u v 0 y/\L y=(N t-N 0)*3/\(N t-N 0)*32<=M/\∃z:G',Cells u w 0 z/\L z=(N (O p)-N (t+1))*3/\(N t-N 0+(N (O p)-N (t+1)))*32<=M/\U u (y++z) (N t-N 0+(N (O p)-N (t+1))) λ a0 a1 a2=>C YC 94 [ΦG b,S a0 (N t-N 0+(N (O p)-N (t+1))) a1,I x] a2 λ a3 a4 a5 a6 a7 a8 a9 b0 b1 b2 b3 b4 b5 b6=>a a4 a5 a6 a7 a8 a9 b0 b1 b2 b3 b4 b5 b6 0 a3;let v:=λ v=>a ⟨⟨[]⟩⟩ none 0 0 none 0 0 none 0 0 none 0 0 18 v;J (x=h) (J (O n<2) (J (O p=1) (v s) (C ZO 96 [ΦG b,I i] s (λ w y=>ΦQ y (v w) (v w)))) (ΦR (O n-2)/\ΦX A (O n-2) n (ΦE Xs s A (N (O n-2)*3) (λ w y z a0 a1=>C ZP 95 [ΦG [I w,I y,S z a0 a1],I i] s λ a2 a3=>J (O p=1) (v a2) (C ZO 96 [ΦG b,I i] a2 (λ a4 a5=>ΦQ a5 (v a4) (J (a3<0) (v a4) (u a4)))))))) (J (O p=1) (v s) (C ZO 96 [ΦG b,I i] s (λ w y=>ΦQ y (v w) (u w)))))))) ?_;dsimp only[aQ,aR,eQ,C,ΦE,L,M,N,ΦQ,ΦR,ΦX,O,J];have b1:=z.vers.bn;have b2:=z.vers.len;unfold bN;refine⟨_,zQ z,?_⟩;rintro H1 l1 p q A1 u c1 _ ⟨rfl,hv⟩;refine⟨λ hf=>?_,λ Y=>?_⟩
 .simp only[aay]at hf;rw[if_pos hf];exact⟨ba,rfl⟩
 simp only[aaF]at Y;obtain⟨v,a,rfl,rfl,r1,r2,V⟩:=hv Y;rw[if_neg (by simp[Y]),a];have g:aw s=true:=by simp only[cg,aah]at Y;exact Y.1.1
 have a9:v∈s.vers:=abI a;have d8:=cZ g a9;have d1:=V.len;have d2:=V.bn;have d3:=V.bnd;have d4:=V.cap;dsimp only;refine⟨_,ig V,?_⟩;rintro H2 l2 _ rfl;have d6:=za (λ c:cz=>decide (c.id=i)) v.cols 0 (by omega);have D:=eU (λ c:cz=>decide (c.id=i)) v.cols 0 (by omega);generalize idxOf (λ c:cz=>decide (c.id=i)) 0 v.cols=y at d6 D;refine⟨λ a1=>?_,λ a1=>?_⟩
 .rw[if_pos (aab a1)];exact⟨ba,rfl⟩
 have a1:=aac a1;rw[if_neg a1];have e0:dq v.cols i=true:=D.1 (by omega);have L2:=aa l1 l2;have e5:∀{P:Heap},Heap.le H2 P->(0:Int)<=0/\0<=y/\y<=c1/\∀(c0:D'),c0=eM A1 c1 (Int.toNat 0) 3->ae .i64 (y+1)/\0<=y+1/\y+1<=u/\(u:Int)<=c1/\∀(b0:D'),b0=eM A1 c1 (Int.toNat (y+1)) 3->
   ∃(t:G'),Cells P c0 0 t/\List.length t=(Int.toNat y-Int.toNat 0)*3/\(Int.toNat y-Int.toNat 0)*32<=140737488355328/\∃(o:G'),Cells P b0 0 o/\List.length o=(Int.toNat (u:Int)-Int.toNat (y+1))*3/\
    (Int.toNat y-Int.toNat 0+(Int.toNat (u:Int)-Int.toNat (y+1)))*32<=140737488355328/\∀(b3:D') (b6:Nat) (w:Heap),Heap.le P w->Cells w b3 0 (t++o)->Int.toNat y-Int.toNat 0+(Int.toNat (u:Int)-Int.toNat (y+1))<=b6->
     ∃(b:ByteArray->D'->Nat->Nat->D'->Nat->Nat->D'->Nat->Nat->D'->Nat->Nat->Heap->Prop),ZB 94 [.agg ⟨[.string nm,.slice A n c,.slice B m d,.slice E k e,.slice F l f]⟩,.slice b3 (Int.toNat y-Int.toNat 0+(Int.toNat (u:Int)-Int.toNat (y+1))) b6,Φi x] w Jv b/\
      ∀(T:Heap),Heap.le w T->∀(c6:ByteArray) (c8:D') (b8 c4:Nat) (Z:D') (a7 c2:Nat) (b4:D') (a6 b5:Nat) (X:D') (a8 b9:Nat),b c6 c8 b8 c4 Z a7 c2 b4 a6 b5 X a8 b9 T->
       aV T c6 c8 b8 c4 Z a7 c2 b4 a6 b5 X a8 b9 {s with vers:=bf s.vers (v.cols.eraseIdx y.toNat) x}/\(0:Int)=0:=by
  intro P l4;have r4:=V.mono (aa l2 l4);refine J' ?_;rintro _ rfl;refine M' ?_;rintro _ rfl;have s1:=r4.sub (j:=(0:Int).toNat) (k:=y.toNat) (by omega) (by omega);have s2:=r4.sub (j:=(y+1).toNat) (k:=(u:Int).toNat) (by omega) (by omega);obtain⟨xs,e3,hr⟩:=s1.row;obtain⟨zs,d0,G⟩:=s2.row;have e1:(v.cols.take y.toNat).drop (0:Int).toNat=v.cols.take y.toNat:=rfl;have e2:(v.cols.take (u:Int).toNat).drop (y+1).toNat=v.cols.drop (y.toNat+1):=by
   rw[aag (by omega),show(y+1).toNat=y.toNat+1 by omega]
  have g1:xs.length=_:=hr.length;have g2:zs.length=_:=G.length;rw[s1.len]at g1;rw[s2.len]at g2;rw[e1]at hr;rw[e2]at G;refine⟨xs,e3,g1,by omega,zs,d0,g2,u' ?_⟩;intro A7 c7 H7 l7 g7 c9;have L7:=aa L2 (aa l4 l7);have b7:Row P (xs++zs) (v.cols.eraseIdx y.toNat):=by
   rw[adV];exact hr.append G
  have d9:(v.cols.eraseIdx y.toNat).length=y.toNat-(0:Int).toNat+((u:Int).toNat-(y+1).toNat):=by
   rw[List.length_eraseIdx,if_pos (by omega)];omega
  have d7:Sl H7 A7 (y.toNat-(0:Int).toNat+((u:Int).toNat-(y+1).toNat)) c7 (v.cols.eraseIdx y.toNat):=b7.sl l7 g7 d9 c9 (by show _*32<=_;omega) (by omega);refine⟨_,ui (z.mono L7) d7 hx (bF g) c5,?_⟩;intro H8 l8 _ _ _ _ _ _ _ _ _ _ _ _ _ h;exact⟨h,rfl⟩
 have e7:0<s.vers.length:=aaP.2 (bF g);have e8:=Qk g a e0;refine⟨λ R=>⟨λ a2=>⟨λ W=>?_,λ W=>⟨_,sP (z.mono L2),?_⟩⟩,λ a2=>?_⟩,λ R=>⟨λ W=>?_,λ W=>⟨_,sP (z.mono L2),?_⟩⟩⟩
 .rw[if_pos (.inl (by have:=aab W;omega))];exact⟨ba,rfl⟩
 .have R:=aab R;have a2:=aab a2;rintro H3 l3 _ rfl;have e6:fresh s i=true:=by
   grind
  refine⟨λ Q=>?_,λ Q=>?_⟩;all_goals rw[if_pos (.inr (.inr ⟨R,e6⟩))];exact⟨ba,rfl⟩
 .have R:=aab R;have a2:=aac a2;obtain⟨hi,hA,_,e4,⟨A3,n3,c3,rfl,q1,q2,q3⟩⟩:=z.vers.at L2 (i:=(n)-2) (by omega) (by omega);refine u' ⟨hA,y' ⟨_,_,_,_,_,e4,_,ig q3,?_⟩⟩;rintro H3 l3 _ rfl;refine⟨λ W=>?_,λ W=>⟨_,sP (z.mono (aa L2 l3)),?_⟩⟩
  .rw[if_pos (.inl (by grind))];exact⟨ba,rfl⟩
  rintro P l4 _ rfl;refine⟨λ Q=>?_,λ Q=>?_⟩
  .rw[if_pos (.inr (.inl Q))];exact⟨ba,rfl⟩
  rw[aad,aaf];refine⟨λ a5=>?_,λ a5=>?_⟩
  .have:dq _ i=false:=(zA _ _).1 a5;rw[if_pos (.inr (.inr ⟨R,by grind⟩))];exact⟨ba,rfl⟩
  .have:dq (s.vers[((n:Int)-2).toNat]'hi).cols i=true:=(eU _ _ 0 (by simp)).1 (by omega);rw[if_neg (by
    grind)]
   exact e5 (aa l3 l4)
 .rw[if_pos (.inl (by grind))];exact⟨ba,rfl⟩
 .rintro H3 l3 _ rfl;refine⟨λ Q=>?_,λ Q=>?_⟩
  .rw[if_pos (.inr (.inl Q))];exact⟨ba,rfl⟩
  grind
end
end
end Go.Vc
namespace Go.Vc
open Go
section
variable {a:bp}{b:Int}{c:dh}
def zT {l:List dh}(h:l.getLast?=some c):∃a,l=a++[c]:=by
 obtain⟨a,rfl⟩:=abX.1 h;simp
def zU {l:List dh}{a:List cz}(h:l.getLast?=some c){p:List cz->Bool}(e:(l.all λ c=>p c.cols)=true)(f:p a=true):((bf l a b).all λ c=>p c.cols)=true:=by
 obtain⟨d,rfl⟩:=zT h;unfold bf;grind
def uj {d:List cz}{x:Int}(h:aw a=true)(q:a.vers.getLast?=some c)(E:c.rc.lo<=x)(F:x<1099511627776)
  (r:aB d=true) (J:∀b∈d,b∈c.cols\/width a<b.id) (u:∀i,dq c.cols i=true->(a.key.contains i=true\/(∃f∈a.fks,f.cols.contains i=true)\/∃b∈a.csts,b.cols.contains i=true)->dq d i=true):
  aw {a with vers:=bf a.vers d x}=true:=by
 obtain⟨k,j⟩:=zT q;rw[uh]at h⊢;simp only[mV,aah]at h⊢;obtain⟨⟨⟨⟨⟨⟨⟨⟨y,t⟩,K⟩,w⟩,A⟩,G⟩,z⟩,B⟩,H⟩:=h;have m:c.rc.hi=1099511627776:=by rw[eV]at t;grind
 have I:width a=aF (aS 0 k) c.cols:=by rw[width,j,qt];rfl
 have g:=JM (x:=x) (by rw[<-j];grind) ⟨r,λ b r=>by grind⟩ m E F;rw[<-j]at g;have l:∀e:List Int,permanent a.vers e=true->(∀i∈e,dq c.cols i=true->dq d i=true)->permanent (bf a.vers d x) e=true:=by
  intro e o D;unfold permanent at o⊢;refine zU (p:=λ d=>e.all _) q o (aaG.2 λ i j=>D i j ?_);grind
 refine⟨⟨⟨⟨⟨⟨⟨⟨y,g.2⟩,g.1⟩,w⟩,l _ A λ i j C=>u i C (.inl (by grind))⟩,G⟩,z⟩,?_⟩,?_⟩
 .refine aaG.2 λ f n=>?_;have:=aaG.1 B f n;simp[Ot]at this⊢;grind
 .refine aaG.2 λ f n=>?_;have:=aaG.1 H f n;simp[vB]at this⊢;grind
def mW (h:cg a b=true):aw a=true/\b<1099511627776/\∃v,a.vers.getLast?=some v/\v.rc.lo<=b:=by
 simp[cg]at h;grind
def zV (h:aw a=true)(b:c∈a.vers):aB c.cols=true:=by
 simp[aw]at h;grind
def Qm (d:c∈a.vers):∀b∈c.cols,b.id<=width a:=λ b e=>(oq a.vers 0).2 c d b e
def Nr {c:cz}(h:(eW a c b).2=0):∃v,cg a b=true/\a.vers.getLast?=some v/\dH c.name=true/\de c.kind=true/\(v.cols.any λ o=>decide (o.name=c.name))=false/\width a≠12/\
  eW a c b=({a with vers:=bf a.vers (v.cols++[⟨width a+1,c.name,c.kind⟩]) b},0):=by
 unfold eW at h⊢;grind
def JN {x:Int}(h:(bN a b x).2=0):∃v,cg a x=true/\a.vers.getLast?=some v/\0<=idxOf (λ c=>decide (c.id=b)) 0 v.cols/\v.cols.length≠1/\used a b=false/\
  bN a b x=({a with vers:=bf a.vers (v.cols.eraseIdx (idxOf (λ c=>decide (c.id=b)) 0 v.cols).toNat) x},0):=by
 unfold bN at h⊢;grind
def Et {c:cz}(h:(eW a c b).2=0):aw (eW a c b).1=true:=by
 obtain⟨v,A,m,D,z,L,O,B⟩:=Nr h;obtain⟨k,F,w,y,G⟩:=mW A;obtain rfl:v=w:=abC (m.symm.trans y);rw[B];have g:=abI m;have H:=zV k g;have M:=qp k;have t:=Qm g;have n:fU 0 [] v.cols=true:=by simp[aB]at H;grind
 have p:∀o∈v.cols,o.name≠c.name:=λ o N=>by
  grind
 refine uj k m G F ?_ ?_ ?_
 .simp only[aB,aah,aad,aae,aav,abH];refine⟨(N' ?_),zR (c:=⟨width a+1,c.name,c.kind⟩) (by grind) D z _ 0 _ n (λ d q=>by grind) (by grind) (by simp) p⟩;have u:v.cols.length<12:=by
   have I:∀(l:List cz) (f:Int) (j:List cz),fU f j l=true->(∀d∈l,d.id<=11)->f<=11->(l.length:Int)<=11-f:=by
    intro l;induction l with
    | nil=>simp
    | cons d r P=>
     intro f j C q _;obtain⟨⟨K,-⟩,J⟩:=(gl ..).1 C;grind
   grind
  omega
 .grind
 .intro i E _;obtain⟨d,q,e⟩:=iR.1 E;exact iR.2 ⟨d,T' e⟩
def idxOf_hit {T:Type}(p:T->Bool)(l:List T)(h:0<=idxOf p 0 l):∃d:(idxOf p 0 l).toNat<l.length,p l[(idxOf p 0 l).toNat]=true:=by
 obtain⟨b,a,c⟩:=(sO p l 0 (by simp)).1 h;grind
def Bq {x:Int}(h:(bN a b x).2=0):aw (bN a b x).1=true:=by
 obtain⟨v,C,l,F,K,D,G⟩:=JN h;obtain⟨g,H,z,B,J⟩:=mW C;obtain rfl:v=z:=abC (l.symm.trans B);rw[G];have f:=abI l;have q:=zV g f;have r:=cZ g f;have m:fU 0 [] v.cols=true:=by simp[aB]at q;grind
 obtain⟨t,p⟩:=idxOf_hit _ _ F;generalize (idxOf _ 0 _).toNat=y at t p;refine uj g l J H ?_ (λ c q=> .inl (List.mem_of_mem_eraseIdx q)) ?_
 .simp[aB,List.length_eraseIdx,if_pos t];exact⟨(u' (by omega)),Np (List.eraseIdx_sublist _ _) 0 0 _ _ (abt _) (λ o E=>E) m⟩
 .intro j I L;obtain⟨d,u,rfl⟩:=iR.1 I;have w:d.id≠b:=by
   simp[used]at D;grind
  obtain⟨k,A,e⟩:=aec.1 u;have n:k≠y:=by grind
  exact iR.2 ⟨d,List.mem_eraseIdx_iff_getElem.2 ⟨k,A,n,e⟩,rfl⟩
end
end Go.Vc
namespace Go.Vc
open Go Go.Shelf Go.Proofs
section
variable {a:D'}{b g:Nat}
def ot {H:Heap}{B C:D'}{m d k e:Nat}{p l q:Int}{x:ByteArray}{t:List eC}(s:Sl H a b g t):
  ZB 18 [.agg ⟨[Φi p,Φi l,.slice a b g,Φi q,.slice B m d,.slice C k e]⟩,.string x] H gL (λ r _=>r=cO x t):=by
 refine ΦK 0 (aj [] [] [(2,[ag 5])]) (λ c=>W ZE H (λ d=>d 0 H) λ d e f g=>J (g<O b) (ΦX a g b (ΦE Xr f a (N g*6+0+0) (λ h=>J (h=x) (c g f) (ΦR (g+1)/\d (g+1) f/\e (g+1)<e g)))) (c (-1) f)) ?_;dsimp only[PL,aW,eQ,ΦE,N,ΦR,W,ΦX,O,J];have E:=s.bn;refine⟨λ i _=>0<=i/\i<=b/\cO x _=idxOf _ i (t.drop i.toNat),λ i=>b-i.toNat,P' rfl,?_⟩;rintro Y u i ⟨o,P,v⟩;simp only[aad,aaf];refine⟨λ f=>?_,λ j=>?_⟩
 .obtain⟨y,w,_,D,nm,L,n1,R,A2,M,T,Z,G,U,S,I,c4,Q,F,V,rfl,h⟩:=s.at u o f;have X:=h.sch.name;rw[ak o y,idxOf]at v;refine⟨w,o,f,_,D.cy (k:=0) rfl,λ z=>?_,λ z=>u' ⟨y' ?_,by omega⟩⟩
  .grind
  grind
 .rw[ai j s.len,idxOf]at v;grind
def vG {H:Heap}{d:List az}{w:Int}(i:Sl H a b g d)(E:0<=w)(N:w<=12):
  ZB 53 [.slice a b g,Φi w] H fi (λ u o r j=>Sl j u o r (xB d w)):=by
 refine ΦK 1 (aj [] [] [(2,[.slot 5 false [.row 17 133]])]) (λ c=>∃d:G',Cells H a 0 d/\L d=b*3/\b*32<=M/\W XN H (λ e=>e b d H) λ e f g h i=>J (O h<w) ((h+1)*32<=M/\(let j:=i++[Value.int .i64 0,I 0,ΦT ⟨⟨[]⟩⟩];e (h+1) j g/\f (h+1) j<f h i)) (U g i h (λ j k l=>c j h k l))) ?_;dsimp only[PL,aW,L,M,W,O,J];have x:=i.len;have t:b*32<=140737488355328:=i.bnd;obtain⟨z,s,C⟩:=i.row;refine⟨z,s,by rw[C.length,x];rfl,t,?_⟩;refine⟨λ q l j=>b<=q/\((q)<=w\/q=b)/\Row j l (d++List.replicate (q-b) v0),λ q _=>w.toNat-q,N' ⟨.inr rfl,by grind⟩,?_⟩;rintro y B q l ⟨D,G,k⟩;simp;refine⟨λ p=>u' ⟨y' ?_,by omega⟩,λ m=>?_⟩
 .have v:Rep.rel y _ v0:=⟨rfl,kS⟩;rw[show q+1-b=(q-b)+1 by omega,List.replicate_succ',<-aat];exact k.append (Row.one v)
 .intro P Q F h f e;have:xB d w=d++List.replicate (q-b) v0:=by
   rw[xB];grind
  rw[this];exact k.sl h f (by grind) e (by show q*32<=_;omega) (by omega)
section
variable {H:Heap}{nm:ByteArray}{A:D'}{n c:Nat}{B:D'}{m d:Nat}{E:D'}{k e:Nat}{F:D'}{l f:Nat}{s:bp}
structure JO (s:bp):Prop where
 w:width s<=12
 ids:∀v∈s.vers,∀c∈v.cols,1<=c.id
def JO.wd (h:JO s):wd s=width s:=by have:=h.w;unfold Vc.wd;omega
def wT:∀(l:List dh) (w:Int),∀v∈l,∀c∈v.cols,c.id<=aS w l
 |[],_,v,a,c,hc=>by grind
 | y::r,w,v,a,c,hc=>by
  rcases aaw.1 a with rfl | a
  .exact Int.le_trans ((fA _ w).2 c hc) (vz r _)
  .exact wT r _ v a c hc
def vH {x:Int}:∀{l:List dh} {v:dh},cY x l=some v->v∈l
 |[],v,h=>by cases h
 | y::r,v,h=>by
  rw[cY]at h;split at h
  .grind
  .exact abQ _ (vH h)
def Ns (h:JO s){x:Int}:∀c∈((cY x s.vers).getD og).cols,1<=c.id/\c.id<=width s:=by
 intro c a;cases b:cY x _ with
 | none=>rw[b]at a;cases a
 | some v=>
  rw[b]at a;exact⟨h.ids v (vH b) c a,wT _ 0 v (vH b) c a⟩
def gH {x:Int}(hs:aV H nm A n c B m d E k e F l f s)(G:JO s):ZB 90 [.agg ⟨[.string nm,.slice A n c,.slice B m d,.slice E k e,.slice F l f]⟩,Φi x] H fi (λ A' n' c' X=>Sl X A' n' c' (br s x)):=by
 refine ΦK 1 (aj [10] [(6,[2,4,6,8,10,12,14,16,18,20,22,24,26,28,31,33,0])] [(4,[.slot 5 false [.row 41 3],ag 8])]) (λ a=>let b:=[ΦT nm,S A n c,S B m d,S E k e,S F l f];C ZP 54 [ΦG b] H λ g h=>h=h/\0<=h/\h*O 8<=M/\∀i:G',i=dE [I 0] (N h)->C YK 98 [ΦG b,I x] g λ j o p q r s t=>W ZG j (λ u=>u (N h) i 0 j) λ u v w y z a0=>J (a0<O r) (ΦX q a0 r (ΦE ZE w q (N a0*3+0) (λ a1=>ΦR (a1-1)/\ΦX q a0 r (ΦE ZE w q (N a0*3+2) (λ a2=>ΦY (a1-1) y (N (a1-1)*1+1<=L z/\ΦR (a0+1)/\(let a3:=av z (N (a1-1)*1) [I a2];u y a3 (a0+1) w/\v y a3 (a0+1)<v y z a0))))))) (U w z y (λ a1 a2 a3=>a a1 y a2 a3))) ?_;dsimp only[PL,aQ,aR,aW,eQ,C,ΦE,L,M,N,ΦR,W,ΦX,ΦY,O,J];refine⟨_,gG hs,?_⟩;rintro H1 V _ ⟨rfl,-⟩;have w0:=Lq s;have w1:=G.w;refine⟨rfl,w0,u' ?_⟩;rintro xs rfl;refine⟨_,qm (hs.mono V),?_⟩;rintro H2 a2 a b A2 Z c2 ok ⟨-,-,-,g,Y,u⟩;have h:((cY x s.vers).getD og).cols=g:=by rw[<-u]
 have j:=Ns G (x:=x);rw[h]at j;have t1:=Y.len;have t2:=Y.bn;obtain⟨w,hw⟩:∃w:Nat,w=(width s).toNat:=⟨_,rfl⟩;rw[<-hw];have hz:Row H2 (dE [Φi 0] w) (List.replicate w (0:Int)):=by
  have r:Rep.rel H2 [Φi 0] (0:Int):=⟨rfl,by decide⟩;exact Row.gS r w
 refine⟨λ p T i X=>0<=i/\i<=Z/\w=p/\Row X T (kX w (g.take i.toNat)),λ _ _ i=>Z-i.toNat,y' ⟨rfl,hz⟩,?_⟩;rintro H3 R p T i ⟨y,i1,rfl,r⟩;dsimp only;simp only[aad,aaf];have q:=sL (w:=w) (g.take i.toNat);refine⟨λ o=>?_,λ a1=>?_⟩
 .obtain⟨hi,hA,_,v,rfl,r1,r2,r3⟩:=Y.at R y o;have a4:=j _ (aan hi);have D:=wN (w:=w) y hi;have a0:=r.dV (i:=(g[i.toNat].id-1).toNat) (by omega) (us:=[.int _ _]) (t:=g[i.toNat].kind) ⟨rfl,r3⟩;have a3:T.length=w*1:=by rw[r.length,q];rfl
  refine⟨hA,y,o,_,v.cy (k:=0) rfl,by grind,hA,y,o,_,v.cy (k:=2) rfl,M' ⟨y' ⟨trivial,?_⟩,by omega⟩⟩;rw[D,if_pos (u' (by omega))];omega
 .rw[aag (by omega)]at r q;intro A4 c4 H4 P Q z;have:br s x=kX w g:=by rw[br,h,G.wd,hw]
  rw[this];exact r.sl P Q q z (by show w*8<=_;omega) (by omega)
def wU {M:List Xp}{x r:Int}(hs:aV H nm A n c B m d E k e F l f s)(ho:JO s)(he:Sl H a b g M)(y:Su M)(r0:0<=r)(r1:r<M.length):
  ZB 153 [.agg ⟨[.string nm,.slice A n c,.slice B m d,.slice E k e,.slice F l f]⟩,Φi x,.slice a b g,Φi r] H MY (λ k e _=>(⟨k,e⟩:Ck)=CE M (br s x) r):=by
 refine ΦK 0 (aj [] [] [(7,[ag 14])]) (λ h=>C ZT 90 [ΦG [ΦT nm,S A n c,S B m d,S E k e,S F l f],I x] H λ i j o p=>C YF 223 [S a b g,I r,S j o p] i λ q s t=>V (t=0) (h 0 t q) (C ZT 224 [S a b g,I r] q (λ u v w y=>W ZE u (λ z=>z 0 u) λ z a0 a1 a2=>J (a2<O w) (ΦX v a2 w (ΦE ZE a1 v (N a2*1) (λ a3=>J (a3<0) (h 0 8 a1) (ΦX v a2 w (ΦE ZE a1 v (N a2*1) (λ a4=>J (O o<=a4) (h 0 8 a1) (ΦX v a2 w (ΦE ZE a1 v (N a2*1) (λ a5=>ΦX j a5 o (ΦE ZE a1 j (N a5*1) (λ a6=>J (a6=0) (h 0 8 a1) (ΦR (a2+1)/\z (a2+1) a1/\a0 (a2+1)<a0 a2)))))))))))) (h s 0 a1)))) ?_;dsimp only[PL,aQ,aR,aW,eQ,C,ΦE,N,ΦR,W,ΦX,O,V,J];refine⟨_,gH hs ho,?_⟩;rintro H0 u X xn xc hc;generalize br s x=j at*;refine⟨_,JA (he.mono u) hc y.wf y.val r0 r1 y.len,?_⟩;rintro H1 D kd er ⟨h1,h2⟩;rw[CE,<-h1];refine⟨λ h=>?_,λ h=>⟨_,El (he.mono (aa u D)) y.wf r0 r1 y.len,?_⟩⟩
 .rw[if_pos (by simpa using h)]
 have h:=aab (np h);rw[if_neg (by omega),<-h2 h];rintro H2 Q A2 n2 c2 ⟨l,U,L⟩;have s1:=U.len;have s2:=U.bn;have t1:=hc.len;have v:=aa D Q;rw[<-any_congr L];refine⟨λ i _=>0<=i/\i<=n2/\l.any (iy j)=(l.drop i.toNat).any (iy j),λ i=>n2-i.toNat,P' rfl,?_⟩;rintro H3 z i ⟨w,i1,Z⟩;simp only[aad,aaf];refine⟨λ o=>?_,λ P=>?_⟩
 .obtain⟨hx,T,_,t,rfl,r2⟩:=U.at z w o;rw[ak w hx,aaS]at Z;have p:iy j l[i.toNat]=true->(⟨0,8⟩:Ck)=if l.any (iy j)=true then⟨0,8⟩else⟨kd,0⟩:=λ h=>by grind
  refine⟨T,w,o,_,t,λ Y=>p (by simp[iy,Y]),λ Y=>⟨T,w,o,_,t,λ g2=>p (by simp[iy,t1,g2]),λ g2=>?_⟩⟩;obtain⟨hy,hB,_,R,rfl,r3⟩:=hc.at (i:=l[i.toNat]) (aa v z) (by omega) (by omega);refine⟨T,w,o,_,t,hB,y' ⟨_,R,λ g3=>p (by rw[iy];grind),λ g3=>u' ⟨y' ?_,by omega⟩⟩⟩;rw[Z,Ep Y (by omega) (by grind)];rfl
 .rw[ai P s1]at Z;grind
def jg {l:List Int}(f:Sl H a b g l)(B:∀x∈l,0<=x):ZB 23 [.slice a b g] H fi (λ D w z s=>Sl s D w z (l.map (·-1))):=by
 refine ΦK 1 (aj [] [] [(3,[.slot 3 false [.row 20 3],ag 4])]) (λ c=>W ZG H (λ d=>d 0 [] 0 H) λ d e f g h i=>J (i<O b) (ΦX a i b (ΦE ZE f a (N i*1) (λ j=>ΦR (j-1)/\(g+1)*8<=M/\ΦR (i+1)/\d (g+1) (h++[Value.int .i64 (j-1)]) (i+1) f/\e (g+1) (h++[Value.int .i64 (j-1)]) (i+1)<e g h i))) (U f h g (λ j k l=>c j g k l))) ?_;dsimp only[PL,aW,eQ,ΦE,M,N,ΦR,W,ΦX,O,J];have L:=f.len;have G:=f.bn;have R:b*8<=140737488355328:=f.bnd;refine⟨λ q u i s=>0<=i/\i<=b/\q=i.toNat/\Row s u ((l.take i.toNat).map (·-1)),λ _ _ i=>b-i.toNat,y' ⟨rfl,rfl⟩,?_⟩;rintro E r q u i ⟨k,Q,rfl,p⟩;dsimp only;simp only[aad,aaf];refine⟨λ d=>?_,λ v=>?_⟩
 .obtain⟨t,C,_,j,rfl,y⟩:=f.at r k d;have P:=B _ (aan t);have e:ae .i64 (l[i.toNat]-1):=by simp only[ae]at y⊢;omega
  refine⟨C,k,d,_,j,e,y' ⟨J' ?_,by omega⟩⟩;rw[bu k t,aaR];exact p.append (Row.one ⟨rfl,e⟩)
 .rw[aag (by omega)]at p;intro I S F o m h;exact p.sl o m (by grind) h (by show i.toNat*8<=_;omega) (by omega)
end
end
section
def sQ (x:Ed)(a:List Int):Int:=if rC x a≠0 then rC x a else if x.kind=3 then oW x.ex a [] x.set else 0
section
variable {H:Heap}{nm:ByteArray}{A:D'}{n c:Nat}{B:D'}{m d:Nat}{E:D'}{k e:Nat}{F:D'}{l f:Nat}{s:bp}{a:Iq}{x:Ed}
def Nt {g:Int}(hs:aV H nm A n c B m d E k e F l f s)(hS:JO s)(Q:qj H a x)(U:Eo x):
  ZB 101 [.agg ⟨[.string nm,.slice A n c,.slice B m d,.slice E k e,.slice F l f]⟩,Φi g,.agg ⟨a.v⟩] H gL (λ r _=>r=sQ x (br s g)):=by
 have e1:=Q.lo;have e2:=Q.hi;have e3:=Q.pred;have e4:=Q.kind;have hA:=Q.set;have s1:=hA.len;have s2:=hA.bn;refine ΦK 0 (aj [17] [(21,[2,4,6,8,10,12,14,16,18,0])] [(13,[ag 10]),(19,[ag 12])]) (λ b=>C ZO 97 [ΦG [I a.vf,I a.vt]] H λ h i=>ΦQ (!i) (b 10 h) (let j:=[ΦT nm,S A n c,S B m d,S E k e,S F l f];let o:=λ o=>V (a.ek=3) (b 0 o) (C ZT 90 [ΦG j,I g] o (λ p q r s=>W ZE p (λ t=>t 0 p) λ t u v w=>J (w<O a.sn) (ΦX a.sa w a.sn (ΦE ZK v a.sa (N w*2) (λ x y=>J (x<0) (b 8 v) (J (O r<=x) (b 8 v) (ΦX q x r (ΦE ZE v q (N x*1) (λ z=>J (z=0) (b 8 v) (W ZE v (λ a0=>a0 0 v) (λ a0 a1 a2 a3=>let a4:=λ(a4:Int) a5 a6 a7=>ΦR (a4+1)/\a5 (a4+1) a6/\a7 (a4+1)<a7 a4;J (a3<w) (ΦX a.sa a3 a.sn (ΦE ZE a2 a.sa (N a3*2+0) (λ a5=>J (a5=x) (b 9 a2) (a4 a3 a0 a2 a1)))) (C YF 153 [ΦG j,I g,S a.xa a.xn a.xc,I y] a2 (λ a5 a6 a7=>V (a7=0) (b a7 a5) (V (a6=0) (ΦX q x r (ΦE ZE a5 q (N x*1) (λ a8=>V (a6=a8) (b 7 a5) (a4 w t a5 u)))) (a4 w t a5 u))))))))))))) (b 0 v)));V (a.ep=-1) (C YF 153 [ΦG j,I g,S a.xa a.xn a.xc,I a.ep] h (λ p q r=>V (r=0) (b r p) (V (q=3) (V (q=0) (b 7 p) (o p)) (o p)))) (o h))) ?_;dsimp only[PL,aQ,aR,aW,eQ,C,ΦE,N,ΦQ,ΦR,W,ΦX,O,V,J];refine⟨_,gY,?_⟩;rintro H1 o _ rfl;rw[e1,e2,e3,e4];refine⟨λ h=>?_,λ h=>⟨λ G=>⟨_,wU (hs.mono o) hS (Q.ex.mono o) U.ex (U.pred.resolve_left (aac (oL G))).1 (U.pred.resolve_left (aac (oL G))).2,?_⟩,λ G=>?_⟩⟩
 .rw[sQ,rC,if_pos (oL h)];rfl
 rotate_left
 focus
  have j:sQ x (br s g)=if x.kind=3 then oW x.ex (br s g) [] x.set else 0:=by
   have a7:rC x (br s g)=0:=by rw[rC,if_neg (by rw[show eo x.vd=true from np h];simp),if_pos (aab (np G))]
   rw[sQ,a7,if_neg (by omega)]
  clear G;revert j
 rotate_left
 focus
  have G:=aac (oL G);have u:rC x (br s g)=if(CE x.ex (br s g) x.pred).er≠0 then(CE x.ex (br s g) x.pred).er else if(CE x.ex (br s g) x.pred).kd≠3/\(CE x.ex (br s g) x.pred).kd≠0 then 7 else 0:=by
   rw[rC,if_neg (by rw[show eo x.vd=true from np h];simp),if_neg G]
  rintro H1 a5 Z er hk;rw[<-hk]at u;dsimp only at u;replace o:=aa o a5;have T:¬(Z≠3/\Z≠0)->er=0->sQ x (br s g)=if x.kind=3 then oW x.ex (br s g) [] x.set else 0:=λ h1 h2=>by
   rw[if_neg (by omega),if_neg h1]at u;rw[sQ,u,if_neg (by omega)]
  refine⟨λ D=>?_,λ D=>⟨λ h3=>⟨λ h4=>?_,λ h4=>?_⟩,λ h3=>?_⟩⟩
  .have D:=aac (oL D);rw[if_pos D]at u;rw[sQ,u,if_pos D]
  .have D:=aab (np D);have:=aac (oL h3);have:=aac (oL h4);rw[if_neg (by omega),if_pos ⟨by omega,by omega⟩]at u;rw[sQ,u,if_pos (by omega)]
  focus
   have j:=T (by have:=aab (np h4);omega) (aab (np D));revert j
  rotate_left
  focus
   have j:=T (by have:=aab (np h3);omega) (aab (np D));revert j
 all_goals
  intro j;refine⟨λ P=>?_,λ P=>⟨_,gH (hs.mono o) hS,?_⟩⟩
  .rw[j,if_neg (aac (oL P))]
  rw[if_pos (aab (np P))]at j;rintro H3 w b p z hc;replace w:=aa o w;have c1:=hc.len;refine⟨λ i _=>0<=i/\i<=a.sn/\oW x.ex (br s g) [] x.set=oW x.ex (br s g) ((x.set.take i.toNat).map (·.col)).reverse (x.set.drop i.toNat),λ i=>a.sn-i.toNat,⟨by omega,by omega,rfl⟩,?_⟩;rintro H4 M i ⟨i0,i1,R⟩;rw[<-j]at R;dsimp only;simp only[aad,aaf];refine⟨λ X=>?_,λ a8=>?_⟩
  .obtain⟨hi,b1,_,b0,rfl,q1,q2⟩:=hA.at (aa w M) i0 X;have a0:=U.set _ (aan hi);have a3:((x.set.take (i+1).toNat).map (·.col)).reverse=x.set[i.toNat].col::((x.set.take i.toNat).map (·.col)).reverse:=by rw[bu i0 hi,aaR,List.reverse_append];rfl
   rw[ak i0 hi,oW,<-a3]at R;have b3:∀{t:Int},0<=t->t<i->x.set[t.toNat]?=none\/∃y,x.set[t.toNat]?=some y/\y.col∈((x.set.take i.toNat).map (·.col)).reverse:=λ {t} t0 t1=>by
    rw[aai (by omega)];refine .inr ⟨_,rfl,?_⟩;rw[List.mem_reverse,aaO];exact⟨_,ady.2 ⟨t.toNat,by omega,rfl⟩,rfl⟩
   have b2:x.set[i.toNat].col∉(x.set.take i.toNat).map (·.col)->x.set[i.toNat].col∉((x.set.take i.toNat).map (·.col)).reverse:=λ h h2=>h (List.mem_reverse.1 h2);generalize x.set[i.toNat]=y at*;have L:iy (br s g) y.col=true->8=sQ x (br s g):=λ h=>by rw[R,if_pos h]
   refine⟨b1,i0,X,_,_,b0,λ g1=>L (by simp[iy,g1]),λ g1=>⟨λ g2=>L (by simp[iy,c1,g2]),λ g2=>?_⟩⟩;obtain⟨hy,hB,_,Y,rfl,r3⟩:=hc.at (i:=y.col) M (by omega) (by omega);have eg:(br s g).getD y.col.toNat 0=(br s g)[y.col.toNat]:=by rw[aaq,aai hy];rfl
   refine⟨hB,by omega,by omega,_,Y,λ g3=>L (by rw[iy,eg];simp[g3]),λ g3=>?_⟩;rw[if_neg (by rw[Ep g1 (by omega) (by rw[eg];exact g3)];simp)]at R;refine⟨λ t _=>0<=t/\t<=i/\y.col∉(x.set.take t.toNat).map (·.col),λ t=>i.toNat-t.toNat,⟨by omega,by omega,by simp⟩,?_⟩;rintro H5 a1 t ⟨t0,t1,u⟩;dsimp only;have q:=aa w (aa M a1);refine⟨λ a9=>?_,λ a9=>?_⟩
   .obtain⟨h6,a2,_,a4,rfl,q6⟩:=hA.at (i:=t) q t0 (by omega);refine⟨a2,t0,by omega,_,a4.cy (k:=0) rfl,λ g4=>?_,λ g4=>⟨by omega,⟨by omega,by omega,?_⟩,by omega⟩⟩
    .grind
    .rw[bu t0 h6,aaR];grind
   refine⟨_,wU (hs.mono q) hS (Q.ex.mono q) U.ex a0.1 a0.2,?_⟩;rintro H6 a6 Z er hk;refine⟨λ h=>?_,λ h=>?_⟩
   .grind
   have go:¬(Z≠0/\Z≠(br s g).getD y.col.toNat 0)->ae .i64 (i+1)/\(0<=i+1/\i+1<=a.sn/\oW x.ex (br s g) [] x.set=oW x.ex (br s g) ((x.set.take (i+1).toNat).map (·.col)).reverse (x.set.drop (i+1).toNat))/\a.sn-(i+1).toNat<a.sn-i.toNat:=λ hh=>by
    grind
   refine⟨λ g5=>⟨hB,by omega,by omega,_,Y.mono (aa a1 a6),λ g6=>?_,λ g6=>go ?_⟩,λ g5=>go ?_⟩
   .grind
   .grind
   grind
  .rw[ai a8 s1]at R;rw[R];rfl
end
end
section
variable {a:Int}{b:List bR}{c:bc}
structure Br (now nid:Int)(t:eC):Prop where
 s:JO t.sch
 lI:nk t.vs
 id:∀v∈t.vs,v.id<nid
 day:∀v∈t.vs,eo v.vd=true
 lo:∀v∈t.vs,v.rc.lo<=now+1
structure Lt (now nid:Int):Prop where
 n0:0<=now
 n1:now<=1000000
 i0:1<=nid
 i1:nid<=1000000000000
def dZ (w:Int)(v:bR):(dY w v).id=v.id/\(dY w v).rc=v.rc/\(dY w v).vd=v.vd:=by unfold dY;grind
def nk.pad (h:nk b)(w:Int):nk (b.map (dY w)):=by
 unfold nk;rw[acJ];exact h.imp λ {a c} d=>by rw[(dZ w a).1,(dZ w c).1];grind
def Hm {w:Int}{d:List Xp}{u:bR}(h:u∈cW (b.map (dY w)) c d a):∃v∈b,v.id=u.id/\v.rc=u.rc/\v.vd=u.vd/\u.rc.hi=1099511627776/\gi u.vd c=true:=by
 rw[cW,abc,aaO]at h;obtain⟨⟨v,j,rfl⟩,e⟩:=h;rw[nX]at e;obtain⟨f,g,i⟩:=dZ w v;grind
def vI:eo c=true↔0<=c.lo/\c.lo<c.hi/\c.hi<=1000000:=by
 rw[eo,aah,fo];grind
def uk {c:List az}{t id:Int}{b:aO}(h:b∈pc c a t id)(e:0<=a)(d:t<=1000000):eo b.p=true:=by
 rw[pc]at h;split at h
 .rw[aaD.1 h];exact vI.2 ⟨e,by grind,d⟩
 grind
def Nu {k:bR->Option (List az)}(h:∀v∈b,eo v.vd=true/\gi v.vd c=true):∀a∈fS c k b,eo a.p=true:=by
 intro a d;obtain⟨v,r,d⟩:=aaZ.1 d;obtain⟨o,i⟩:=h v r;obtain⟨m,t,f⟩:=vI.1 o;have u:cv v.vd c=⟨max v.vd.lo c.lo,min v.vd.hi c.hi⟩:=by rw[cv,if_pos i]
 have e:cv v.vd c=⟨max v.vd.lo c.lo,min v.vd.hi c.hi⟩/\0<=(cv v.vd c).lo/\(cv v.vd c).lo<=1000000/\0<=(cv v.vd c).hi/\(cv v.vd c).hi<=1000000:=by
  simp[gi]at i;grind
 obtain⟨-,q,g,j,s⟩:=e;cases n:k v with
 | none=>
  rw[n,pX,aar,aam]at d;rcases d with d | d
  .exact uk d m g
  .exact uk d j f
 | some b=>
  rw[n,pW,aam,aam]at d;rcases d with(d | d) | d
  .exact uk d m g
  .exact uk d q s
  .exact uk d j f
section
variable {now nid:Int}{t:eC}
def xX (h:Br now nid t)(c:Lt now nid){w:Int}{p:bc}{es:List Xp}{r:Int}{m:bR->Option (List az)}:
  Gx t.vs (oV (t.vs.map (dY w)) p es r) (fS p m (cW (t.vs.map (dY w)) p es r)) (now+1) nid:=by
 have s:=c.n0;have A:=c.n1;have y:=c.i0;have z:=c.i1;refine⟨h.lI,by omega,by omega,by omega,by omega,h.id,?_,?_,?_⟩
 .have o:=zn (p:=p) (es:=es) (r:=r) (h.lI.pad w);rw[oV,List.Nodup,acJ];exact List.Pairwise.imp (λ {a b} l e=>by omega) o
 .intro x k;rw[oV,aaO]at k;obtain⟨u,f,rfl⟩:=k;obtain⟨v,d,g,n,i,q,j⟩:=Hm f;exact⟨v,d,g,by grind,h.lo v d⟩
 .refine Nu λ u f=>?_;obtain⟨v,d,g,n,i,q,j⟩:=Hm f;exact⟨by rw[<-i];exact h.day v d,j⟩
def Lu (h:Br now nid t)(a:Lt now nid){b:List az}(e:eo c=true):Gx t.vs [] [⟨b,c,[]⟩] (now+1) nid:=by
 have i:=a.n0;have g:=a.n1;have d:=a.i0;have f:=a.i1;exact⟨h.lI,by omega,by omega,by omega,by omega,h.id,by simp,by simp,by grind⟩
def kZ {c:List Int}{u:bR}(h:u∈cp c a b):∃v∈b,v.id=u.id/\v.vd=u.vd/\v.rc.lo=u.rc.lo:=by
 obtain⟨v,d,h⟩:=aaZ.1 h;rw[kR]at h;grind
def zW {c:List Int}{x:Int}:∀{d:List bR},nk d->nk (cp c x d)
 |[],_=>by simp[cp,nk]
 | v::r,h=>by
  obtain⟨k,g⟩:=aaz.1 h;have e:cp c x (v::r)=kR c x v++cp c x r:=by rfl
  rw[e,nk,aaW];refine⟨?_,zW g,λ a f b i=>?_⟩
  .rw[kR];split<;>(try split)<;>simp
  .have l:a.id=v.id:=by
    rw[kR]at f;grind
   obtain⟨u,m,j,-⟩:=kZ i;grind
def lg {x:Int}:∀{l:List aO} {f:Int} {u:bR},u∈gN f x l->f<=u.id/\u.id<f+l.length/\u.rc=⟨x,1099511627776⟩/\∃a∈l,u.vd=a.p/\u.vals=a.vals
 |[],f,u,h=>by cases h
 | a::r,f,u,h=>by
  rcases aaw.1 h with rfl | h
  .grind
  .obtain⟨e,c,i,b,d,g⟩:=lg h;grind
def Hn {x:Int}:∀{l:List aO} {f:Int},nk (gN f x l)
 |[],f=>by simp[gN,nk]
 | a::r,f=>by
  rw[gN,nk,aaz];exact⟨λ u b=>by have:=(lg b).1;grind,Hn⟩
def Br.apply {i:List Int}{g:List aO}(h:Br now nid t)(j:Gx t.vs i g (now+1) nid):Br now (nid+g.length) {t with vs:=jN t.vs i g (now+1) nid}:=by
 refine⟨h.s,?_,λ u c=>?_,λ u c=>?_,λ u c=>?_⟩
 .rw[jN,nk,aaW];refine⟨zW h.lI,Hn,λ a f b k=>?_⟩;obtain⟨v,d,e,-⟩:=kZ f;have:=h.id v d;have:=(lg k).1;omega
 all_goals
  rcases aam.1 (c)with c | c
 .obtain⟨v,d,e,-⟩:=kZ c;have:=h.id v d;omega
 .have:=(lg c).2.1;omega
 .obtain⟨v,d,-,e,-⟩:=kZ c;rw[<-e];exact h.day v d
 .obtain⟨-,-,-,a,f,e,-⟩:=lg c;rw[e];exact j.days a f
 .obtain⟨v,d,-,-,e⟩:=kZ c;rw[<-e];exact h.lo v d
 .have:=(lg c).2.2.1;grind
def Br.up (h:Br now nid t)(b:nid<=a):Br now a t:=⟨h.s,h.lI,λ v c=>Int.lt_of_lt_of_le (h.id v c) b,h.day,h.lo⟩
def JP {cl:List Int}{ad:List aO}{x f:Int}{vs:List bR}:(jN vs cl ad x f).length<=vs.length+ad.length:=by
 rw[jN,aae,tU];have:=iJ (cl:=cl) (t:=x) (vs:=vs);omega
end
def rE (now:Int)(t:eC)(x:Ed):Int×List Int×List aO:=
 if eo x.vd=false then(10,[],[])else if(expand ((cY (now+1) t.sch.vers).getD og).cols x.vals (width t.sch)).2≠0 then((expand ((cY (now+1) t.sch.vers).getD og).cols x.vals (width t.sch)).2,[],[])
 else(0,[],[⟨(expand ((cY (now+1) t.sch.vers).getD og).cols x.vals (width t.sch)).1,x.vd,[]⟩])
def iS (t:eC):List bR:=t.vs.map (dY (wd t.sch))
def Bs (now:Int)(t:eC)(x:Ed):Int×List Int×List aO:=
 if rC x (br t.sch (now+1))≠0 then(rC x (br t.sch (now+1)),[],[])else(0,oV (iS t) x.vd (gO x) (jU x),PA (iS t) x.vd (gO x) (jU x))
def zX (now:Int)(t:eC)(x:Ed):Int×List Int×List aO:=
 if rC x (br t.sch (now+1))≠0 then(rC x (br t.sch (now+1)),[],[])else if oW x.ex (br t.sch (now+1)) [] x.set≠0 then(oW x.ex (br t.sch (now+1)) [] x.set,[],[])
 else(0,oV (iS t) x.vd (gO x) (jU x),PB (iS t) x.vd (gO x) (jU x) x.set)
def iT (now:Int)(t:eC)(x:Ed):Int×List Int×List aO:=if x.kind=1 then rE now t x else if x.kind=2 then Bs now t x else zX now t x
def mX {t:eC}{p:bc}{es:List Xp}{r:Int}:(cW (iS t) p es r).length<=t.vs.length:=by
 refine aax jz ?_;simp[iS]
def Ho {nid:Int}{t:eC}{x:Ed}(h:Br a nid t)(f:Lt a nid)(b:(iT a t x).1=0):Gx t.vs (iT a t x).2.1 (iT a t x).2.2 (a+1) nid/\(iT a t x).2.2.length<=3*t.vs.length+1:=by
 unfold iT at*;split at b
 .rename_i d;simp[if_pos d];unfold rE at*;split at b
  .grind
  .rename_i c;split at b
   .grind
   .rename_i e;simp only[if_neg c,if_neg e];exact⟨Lu h f (by grind),by simp⟩
 .rename_i d;simp[if_neg d];split at b
  .rename_i c;simp[if_pos c];unfold Bs at*;split
   .grind
   .exact⟨xX h f,aax jB (by have:=mX (t:=t) (p:=x.vd) (es:=gO x) (r:=jU x);omega)⟩
  .rename_i c;simp[if_neg c];unfold zX at*;split at b
   .grind
   .rename_i e;split at b
    .grind
    .rename_i g;simp[if_neg e,if_neg g];exact⟨xX h f,aax jB (by have:=mX (t:=t) (p:=x.vd) (es:=gO x) (r:=jU x);omega)⟩
end
section
def Row.vJ {T:Type}[Rep T]{H:Heap}{xs:G'}{l:List T}{i:Nat}(h:Row H xs l)(o:i<l.length):∃b,Rep.rel H b l[i]/\(∀k m,k+m<=Rep.sz T->Vc.win xs (i*Rep.sz T+k) m=(b.drop k).take m)/\
  (∀{d:Heap},Heap.le H d->∀k c t,k+c.length<=Rep.sz T->Rep.rel d (b.take k++c++b.drop (k+c.length)) t->Row d (Vc.av xs (i*Rep.sz T+k) c) (l.set i t)):=by
 obtain⟨b,n,j,v⟩:=h.mg o;have s:=Rep.len n;refine⟨b,n,j,λ {d} g k c t r u=>?_⟩;obtain⟨f,q,p,w⟩:=(h.mono g).mg o;have e:f=b:=by
  have a:=p 0 (Rep.sz T) (by omega);rw[j 0 (Rep.sz T) (by simp),abN,abN,aag (by omega),aag (by rw[Rep.len q];grind)]at a;grind
 grind
structure Db where
 now:Int
 nid:Int
 tabs:List eC
structure RL where
 hor:Int
 hA:D'
 hn:Nat
 hc:Nat
 cA:D'
 cn:Nat
 cc:Nat
abbrev JQ (now nid:Int)(n:Nat)(xs:G')(r:RL):List BC:=[.v (.int .i64 now),.v (.int .i64 nid),.row 53 n xs,.v (.int .i64 r.hor),.v (.slice r.hA r.hn r.hc),.v (.slice r.cA r.cn r.cc)]
abbrev Eu (b:Nat):List aI:=[.int .i64,.int .i64,.row b 53,.int .i64,.sl,.sl]
structure ou (H:Heap)(now nid:Int)(n:Nat)(xs:G')(d:Db):Prop where
 now:now=d.now
 nid:nid=d.nid
 len:n=d.tabs.length
 row:Row H xs d.tabs
def ou.mono {H b:Heap}{now nid:Int}{n:Nat}{xs:G'}{d:Db}(h:ou H now nid n xs d)(a:Heap.le H b):ou b now nid n xs d:=⟨h.now,h.nid,h.len,h.row.mono a⟩
def ow (d:Db)(r:RL)(g:Int):Int->Int->Nat->G'->Int->D'->Nat->Nat->D'->Nat->Nat->Int->Heap->aU->Prop:=
 λ now nid n xs a k l i j b f e h c=>ou h now nid n xs d/\(⟨a,k,l,i,j,b,f⟩:RL)=r/\ux=c/\e=g
def vK (d:Db)(j:Nat)(t:eC)(b:List Int)(a:List aO):Db:=⟨d.now,d.nid+a.length,d.tabs.set j ⟨t.sch,jN t.vs b a (d.now+1) d.nid⟩⟩
section
variable {H:Heap}{now nid:Int}{n:Nat}{xs:G'}{r:RL}{d:Db}{b j:Nat}{t:eC}
def zY {B E:D'}{m c k e:Nat}{s:List Int}{l:List aO}(a:ou H now nid n xs d)(Z:d.tabs[j]?=some t)(hc:Sl H B m c s)(w:Sl H E k e l)(R:Gx t.vs s l (d.now+1) d.nid)
  (o:Lt d.now d.nid) (hb:t.vs.length+l.length<=100000000):
  ZD 198 [.me,.lx 2 (j*6),.v (.agg ⟨[.slice B m c,.slice E k e]⟩)] 30 (JQ now nid n xs r) H ux (Eu b) gL (ow (vK d j t s l) r 0):=by
 obtain⟨F,rfl⟩:=aap.1 Z;have Y:=a.now;have M:=a.nid;have e3:=a.len;have n0:=o.n0;have n1:=o.n1;have i0:=o.i0;have i1:=o.i1;have q:oI (JQ now nid n xs r) [.me,.lx 2 (j*6),.v (.agg ⟨[.slice B m c,.slice E k e]⟩)]:=⟨by grind,trivial⟩;refine uL 0 0 (aj [] [(1,[2,4,6,10,12,14,16,18,20,22,24,26,28,9,31,32,34,36,38,40,0]),(4,[2,4,6,8,10,12,15,16,18,20,23,0])] []) (λ a=>∀b:Nat,ΦR (now+1)/\ΦF ZM xs (j*6+5) 1 λ d f g=>C YN 259 [S d f g,ΦG [S B m c,S E k e],I (now+1),I nid] H λ h i l o p=>J (p=0) (j*6+5+1<=L xs/\ΦR (nid+O k)/\b=b/\a now (nid+O k) n (av xs (j*6+5) [S i l o]) r.hor r.hA r.hn r.hc r.cA r.cn r.cc p h ux) (b=b/\a now nid n xs r.hor r.hA r.hn r.hc r.cA r.cn r.cc p h ux)) q ?_;dsimp only[aQ,aR,eQ,C,ΦF,L,ΦR,O,J];intro a0;obtain⟨vs,⟨y,D,u,N,A2,G,P,X,z,V,Q,A,c4,A5,n5,c5,rfl,p⟩,f,i⟩:=a.row.vJ _;have s1:=p.vs.len;have a1:=w.len;subst Y M;refine⟨by simp[ae];omega,_,_,_,f 5 1 (by decide),_,Pv p.vs hc w R (by omega),?_⟩;rintro H1 g T U c6 er ⟨rfl,W⟩;have x:xs.length=d.tabs.length*6:=a.row.length;refine⟨λ _=>⟨by omega,by simp[ae];omega,rfl,⟨rfl,by rw[vK,a1],by rw[vK];grind,?_⟩,rfl,rfl,rfl⟩,λ h=>(by grind)⟩;exact i g 5 _ _ (by show 5+1<=6;simp) ⟨y,D,u,N,A2,G,P,X,z,V,Q,A,c4,T,U,c6,rfl,p.sch.mono g,W⟩
def Ev (d:Db)(j:Nat)(t:eC)(R:Int×List Int×List aO):Db:=if R.1=0 then vK d j t R.2.1 R.2.2 else d
def Lv {R:Int×List Int×List aO}(h:R.1=0):Ev d j t R=vK d j t R.2.1 R.2.2:=if_pos h
def xY {R:Int×List Int×List aO}(h:R.1≠0):Ev d j t R=d:=if_neg h
def JR (s:bp)(x:Int):(br s x).length<=12:=by
 rw[br,sL];have:=CC s;omega
def JS {x:Ed}(h:Eo x):AP (gO x)/\0<=jU x/\jU x<(gO x).length/\Rx (gO x) x.set/\(gO x).length<=201:=by
 have e:=h.ex.len;rw[gO,jU];split
 .rename_i b;refine⟨λ i f=>?_,by omega,by simp;omega,λ a d=>?_,by simp;omega⟩
  .by_cases c:i<x.ex.length
   .rw[aaI c];exact h.ex.wf i c
   .have:i=x.ex.length:=by grind
    subst this;simp;exact⟨.inl rfl,λ h=>by simp[Hk,aZ]at h,λ h=>by simp[Hk,aZ]at h⟩
  .have:=h.set a d;grind
 .rename_i b;have:=h.pred.resolve_left b;exact⟨h.ex.wf,this.1,this.2,h.set,by omega⟩
variable {a:Iq}{x:Ed}
def Nv (k:ou H now nid n xs d)(O:d.tabs[j]?=some t)(w:qj H a x)(R:Br d.now d.nid t)(A:Lt d.now d.nid)(hb:t.vs.length<=10000000):
  ZD 131 [.me,.lx 2 (j*6),.v (.agg ⟨a.v⟩)] 30 (JQ now nid n xs r) H ux (Eu b) gL (ow (Ev d j t (rE d.now t x)) r (rE d.now t x).1):=by
 obtain⟨B,G⟩:=aap.1 O;have J:=k.now;have e2:=k.nid;have e3:=k.len;have n0:=A.n0;have n1:=A.n1;have T:=w.lo;have W:=w.hi;have D:oI (JQ now nid n xs r) [.me,.lx 2 (j*6),.v (.agg ⟨a.v⟩)]:=⟨by show 0<n;omega,trivial⟩;refine uL 0 1 {aj [13,36,49] [(3,[2,4,6,10,12,14,16,18,9,21,22,24,26,29,31,32,0,1,1,29,21,22,24,26,31,32,0,1,1,1,29,9,21,22,24,26,31,32,0]),(4,[2,4,6,8,10,12,15,17,19,20,22,24,26,28,0])] []with bx:=λ | some 49,198=>some [.int .i64,.int .i64,.row 50 53,.int .i64,.sl,.sl] | _,_=>none} (λ b=>∀c:Nat,C ZO 138 [ΦG [I a.vf,I a.vt]] H λ d e=>ΦQ (!e) (c=c/\b now nid n xs r.hor r.hA r.hn r.hc r.cA r.cn r.cc 10 d ux) (ΦR (now+1)/\(let f:=λ f g (h i:Nat) k (l m:Nat) o (p q:Nat) s (t u:Nat)=>C YK 33 [ΦG [ΦT f,S g h i,S k l m,S o p q,S s t u],I (now+1)] d λ v w x y z a0 a1=>ΦF XP xs (j*6+0) 5 λ a2 a3 a4 a5 a6 a7 a8 a9 b0 b1 b2 b3 b4=>C ZP 106 [ΦG [ΦT a2,S a3 a4 a5,S a6 a7 a8,S a9 b0 b1,S b2 b3 b4]] v λ b5 b6=>C YN 197 [ΦG [I w,I x,S y z a0],S a.va a.vn a.vc,I b6] b5 λ b7 b8 b9 c0 c1=>V (c1=0) (c=c/\b now nid n xs r.hor r.hA r.hn r.hc r.cA r.cn r.cc c1 b7 ux) (C ZY 199 [S b8 b9 c0,ΦG [I a.vf,I a.vt]] b7 (λ c2 c3 c4 c5 c6 c7 c8=>tS XQ ZP 198 [BA.me,BA.lx 2 (j*6),BA.v (ΦG [S c3 c4 c5,S c6 c7 c8])] 30 [BC.v (I now),BC.v (I nid),BC.row 53 n xs,BC.v (I r.hor),BC.v (S r.hA r.hn r.hc),BC.v (S r.cA r.cn r.cc)] c2 ux λ c9 d0 d1 d2 d3 d4 d5 d6 d7 d8 d9 e0 e1 e2=>c=c/\b d1 d2 d3 d4 d5 d6 d7 d8 d9 e0 e1 e2 c9 d0));ΦF XP xs (j*6+0) 5 (λ g h i k l m o p q s t u v=>f g h i k l m o p q s t u v/\f g h i k l m o p q s t u v)/\ΦF XP xs (j*6+0) 5 λ g h i k l m o p q s t u v=>f g h i k l m o p q s t u v))) D ?_;dsimp only[aQ,aR,eQ,C,tS,ΦF,ΦQ,ΦR,V];intro a0;refine⟨_,fw,?_⟩;rintro H1 f _ rfl;rw[T,W];refine⟨λ h=>?_,λ h=>?_⟩
 .have y:rE d.now t x=(10,[],[]):=if_pos (oL h);rw[y];exact⟨rfl,k.mono f,rfl,rfl,rfl⟩
 have N:eo x.vd=true:=np h;obtain⟨vs,⟨nm,A1,m1,c1,A2,m2,c2,A3,m3,c3,A4,m4,c4,A5,m5,c5,rfl,E⟩,u,-⟩:=(k.row.mono f).vJ B;rw[G]at E;have F:=u 0 5 (by decide);rw[J];refine⟨by simp only[ae];omega,⟨_,_,_,_,_,_,_,_,_,_,_,_,_,F,?_,?_⟩,_,_,_,_,_,_,_,_,_,_,_,_,_,F,?_⟩;all_goals
  refine⟨_,kF (x:=d.now+1) E.sch,?_⟩;rintro H2 q a2 b2 A9 n9 c9 ok ⟨-,-,-,s,m,g⟩;have g:((cY (d.now+1) t.sch.vers).getD og).cols=s:=by grind
  refine⟨_,_,_,_,_,_,_,_,_,_,_,_,_,F,_,oh (E.sch.mono q),?_⟩;rintro H3 e _ ⟨rfl,-⟩;have e:=aa q e;refine⟨_,Bl (m.mono (by grind)) (w.vals.mono (aa f e)),?_⟩;rintro H4 c X P U Q ⟨i,o⟩;rw[<-g]at i o;have c:=aa f (aa e c);refine⟨λ z=>?_,λ z=>?_⟩
  .have z:=aac (oL z);have y:rE d.now t x=(Q,[],[]):=by rw[rE,if_neg (by grind),if_pos (by grind),o]
   rw[y,xY z];exact⟨rfl,by rw[<-J];exact k.mono c,rfl,rfl,rfl⟩
  .have y:rE d.now t x=(0,[],[⟨(expand ((cY (d.now+1) t.sch.vers).getD og).cols x.vals (width t.sch)).1,x.vd,[]⟩]):=by rw[rE,if_neg (by grind),if_neg (by grind)]
   refine⟨_,MF i N w.r1 w.r2,?_⟩;rintro H5 l B5 Y d5 E5 k5 Z ⟨L,M⟩;have l:=aa c l;have p:=zY (r:=r) (b:=50) (k.mono l) O L M (Lu R A N) A (by grind);rw[J]at p;refine⟨_,p,?_⟩;rw[y,Lv rfl];simp
def Nw (o:ou H now nid n xs d)(N:d.tabs[j]?=some t)(m:qj H a x)(A:Eo x)(L:Br d.now d.nid t)(y:Lt d.now d.nid)(hb:t.vs.length<=10000000):
  ZD 132 [.me,.lx 2 (j*6),.v (.agg ⟨a.v⟩)] 30 (JQ now nid n xs r) H ux (Eu b) gL (ow (Ev d j t (Bs d.now t x)) r (Bs d.now t x).1):=by
 obtain⟨z,G⟩:=aap.1 N;have B:=o.now;have e2:=o.nid;have e3:=o.len;have n0:=y.n0;have n1:=y.n1;have f1:=m.lo;have W:=m.hi;obtain⟨g1,g2,g3,g4,g5⟩:=JS A;have F:oI (JQ now nid n xs r) [.me,.lx 2 (j*6),.v (.agg ⟨a.v⟩)]:=⟨by show 0<n;omega,trivial⟩;refine uL 0 1 {aj [20,40] [(1,[2,4,6,10,12,14,16,18,9,21,23,24,0]),(5,[2,4,6,8,14,16,18,20,11,13,23,25,26,0])] []with bx:=λ | some 40,198=>some [.int .i64,.int .i64,.row 41 53,.int .i64,.sl,.sl] | _,_=>none} (λ b=>∀c:Nat,ΦR (now+1)/\ΦF XM xs (j*6) 6 λ d e f g h i k l m o p q s t u v=>C ZT 201 [ΦG [ΦT d,S e f g,S h i k,S l m o,S p q s,S t u v],I (now+1)] H λ w x y z=>let a0:=[I a.ek,ΦT a.et,S a.va a.vn a.vc,I a.vf,I a.vt,S a.xa a.xn a.xc,I a.ep,S a.sa a.sn a.sc,ΦT a.nm,S a.A a.n a.c,S a.B a.m a.d,S a.E a.k a.e,S a.F a.l a.f,I a.ci,ΦT a.cn,I a.ck];C ZP 200 [ΦG a0,S x y z] w λ a1 a2=>V (a2=0) (c=c/\b now nid n xs r.hor r.hA r.hn r.hc r.cA r.cn r.cc a2 a1 ux) (C YN 202 [ΦG a0] a1 (λ a3 a4 a5 a6 a7=>ΦF XM xs (j*6) 6 λ a8 a9 b0 b1 b2 b3 b4 b5 b6 b7 b8 b9 c0 c1 c2 c3=>C ZT 204 [ΦG [ΦT a8,S a9 b0 b1,S b2 b3 b4,S b5 b6 b7,S b8 b9 c0,S c1 c2 c3]] a3 λ c4 c5 c6 c7=>C ZY 203 [S c5 c6 c7,ΦG [I a.vf,I a.vt],S a4 a5 a6,I a7] c4 λ c8 c9 d0 d1 d2 d3 d4=>tS XR ZP 198 [BA.me,BA.lx 2 (j*6),BA.v (ΦG [S c9 d0 d1,S d2 d3 d4])] 30 [BC.v (I now),BC.v (I nid),BC.row 53 n xs,BC.v (I r.hor),BC.v (S r.hA r.hn r.hc),BC.v (S r.cA r.cn r.cc)] c8 ux λ d5 d6 d7 d8 d9 e0 e1 e2 e3 e4 e5 e6 e7 e8=>c=c/\b d7 d8 d9 e0 e1 e2 e3 e4 e5 e6 e7 e8 d5 d6))) F ?_;dsimp only[aQ,aR,eQ,C,tS,ΦF,ΦR,V];intro a0;obtain⟨vs,⟨nm,A1,m1,c1,A2,m2,c2,A3,m3,c3,A4,m4,c4,A5,m5,c5,rfl,E⟩,w,-⟩:=o.row.vJ z;rw[G]at E;have O:=w 0 6 (by decide);rw[B];refine⟨by simp only[ae];omega,_,_,_,_,_,_,_,_,_,_,_,_,_,_,_,_,O,_,Hj (x:=d.now+1) E,?_⟩;rintro H1 q c kn kc hK;refine⟨_,qk (m.mono q) A hK,?_⟩;rintro H2 g _ rfl;have g:=aa q g;refine⟨λ i=>?_,λ i=>?_⟩
 .have i:=aac (oL i);rw[Bs,if_pos i,xY i];exact⟨rfl,by rw[<-B];exact o.mono g,rfl,rfl,rfl⟩
 have i:=aab (np i);have hR:Bs d.now t x=(0,oV (iS t) x.vd (gO x) (jU x),PA (iS t) x.vd (gO x) (jU x)):=by rw[Bs,if_neg (by omega)]
 refine⟨_,CH (m.mono g) A.ex.len,?_⟩;rintro H3 h X xn xc pr ⟨U,rfl⟩;have h:=aa g h;refine⟨_,_,_,_,_,_,_,_,_,_,_,_,_,_,_,_,O,_,CD (E.mono h),?_⟩;rintro H4 u f vn vc R;have s4:=R.len;simp at s4;rw[f1,W];refine⟨_,MJ R (L.lI.pad _) (U.mono u) g1 g2 g3 (by omega) (by omega) m.r1 m.r2,?_⟩;rintro H5 k B5 a1 d5 E5 k5 e5 ⟨J,D⟩;have k:=aa h (aa u k);have M:=aax (jB (p:=x.vd) (ch:=λ _=>none)) (acx 3 (mX (t:=t) (p:=x.vd) (es:=gO x) (r:=jU x)));have s:=zY (r:=r) (b:=41) (o.mono k) N J D (xX L y) y (by show t.vs.length+(fS x.vd _ (cW (iS t) x.vd _ _)).length<=100000000;omega);rw[B]at s;refine⟨_,s,?_⟩;rintro H6 a3 O6 P T n' a2 Q a7 Z Y a6 a4 a5 e l;rw[hR];exact⟨rfl,l⟩
def Nx (o:ou H now nid n xs d)(P:d.tabs[j]?=some t)(k:qj H a x)(A:Eo x)(N:Br d.now d.nid t)(D:Lt d.now d.nid)(hb:t.vs.length<=10000000):
  ZD 133 [.me,.lx 2 (j*6),.v (.agg ⟨a.v⟩)] 30 (JQ now nid n xs r) H ux (Eu b) gL (ow (Ev d j t (zX d.now t x)) r (zX d.now t x).1):=by
 obtain⟨E,L⟩:=aap.1 P;have B:=o.now;have e2:=o.nid;have e3:=o.len;have n0:=D.n0;have n1:=D.n1;have f1:=k.lo;have f2:=k.hi;obtain⟨g1,g2,g3,g4,g5⟩:=JS A;have J:oI (JQ now nid n xs r) [.me,.lx 2 (j*6),.v (.agg ⟨a.v⟩)]:=⟨by show 0<n;omega,trivial⟩;refine uL 0 1 {aj [23,29,51] [(1,[2,4,8,10,12,14,16,7,19,20,0]),(9,[2,4,6,8,14,16,18,20,22,24,11,13,27,29,30,0])] []with bx:=λ | some 51,198=>some [.int .i64,.int .i64,.row 52 53,.int .i64,.sl,.sl] | _,_=>none} (λ b=>∀c:Nat,ΦR (now+1)/\ΦF XM xs (j*6) 6 λ d e f g h i k l m o p q s t u v=>C ZT 201 [ΦG [ΦT d,S e f g,S h i k,S l m o,S p q s,S t u v],I (now+1)] H λ w x y z=>let a0:=[I a.ek,ΦT a.et,S a.va a.vn a.vc,I a.vf,I a.vt,S a.xa a.xn a.xc,I a.ep,S a.sa a.sn a.sc,ΦT a.nm,S a.A a.n a.c,S a.B a.m a.d,S a.E a.k a.e,S a.F a.l a.f,I a.ci,ΦT a.cn,I a.ck];C ZP 200 [ΦG a0,S x y z] w λ a1 a2=>let a3:=λ(a3:Int) a4=>c=c/\b now nid n xs r.hor r.hA r.hn r.hc r.cA r.cn r.cc a3 a4 ux;V (a2=0) (a3 a2 a1) (C ZP 205 [ΦG a0,S x y z] a1 (λ a4 a5=>V (a5=0) (a3 a5 a4) (C YN 202 [ΦG a0] a4 (λ a6 a7 a8 a9 b0=>ΦF XM xs (j*6) 6 λ b1 b2 b3 b4 b5 b6 b7 b8 b9 c0 c1 c2 c3 c4 c5 c6=>C ZT 204 [ΦG [ΦT b1,S b2 b3 b4,S b5 b6 b7,S b8 b9 c0,S c1 c2 c3,S c4 c5 c6]] a6 λ c7 c8 c9 d0=>C ZY 206 [S c8 c9 d0,ΦG [I a.vf,I a.vt],S a7 a8 a9,I b0,S a.sa a.sn a.sc] c7 λ d1 d2 d3 d4 d5 d6 d7=>tS XS ZP 198 [BA.me,BA.lx 2 (j*6),BA.v (ΦG [S d2 d3 d4,S d5 d6 d7])] 30 [BC.v (I now),BC.v (I nid),BC.row 53 n xs,BC.v (I r.hor),BC.v (S r.hA r.hn r.hc),BC.v (S r.cA r.cn r.cc)] d1 ux λ d8 d9 e0 e1 e2 e3 e4 e5 e6 e7 e8 e9 f0 f1=>c=c/\b e0 e1 e2 e3 e4 e5 e6 e7 e8 e9 f0 f1 d8 d9))))) J ?_;dsimp only[aQ,aR,eQ,C,tS,ΦF,ΦR,V];intro a0;obtain⟨vs,⟨nm,A1,m1,c1,A2,m2,c2,A3,m3,c3,A4,m4,c4,A5,m5,c5,rfl,G⟩,z,-⟩:=o.row.vJ E;rw[L]at G;have Q:=z 0 6 (by decide);rw[B];refine⟨by simp only[ae];omega,_,_,_,_,_,_,_,_,_,_,_,_,_,_,_,_,Q,_,Hj (x:=d.now+1) G,?_⟩;rintro H1 w c kn kc W;refine⟨_,qk (k.mono w) A W,?_⟩;rintro H2 g _ rfl;have h:=aa w g;refine⟨λ q=>?_,λ q=>⟨_,rD (k.mono h) A (W.mono g) (JR _ _),?_⟩⟩
 .have q:=aac (oL q);rw[zX,if_pos q,xY q];exact⟨rfl,by rw[<-B];exact o.mono h,rfl,rfl,rfl⟩
 have q:=aab (np q);rintro H2 g _ rfl;have g:=aa h g;refine⟨λ l=>?_,λ l=>?_⟩
 .have l:=aac (oL l);rw[zX,if_neg (by omega),if_pos l,xY l];exact⟨rfl,by rw[<-B];exact o.mono g,rfl,rfl,rfl⟩
 have l:=aab (np l);have hR:zX d.now t x=(0,oV (iS t) x.vd (gO x) (jU x),PB (iS t) x.vd (gO x) (jU x) x.set):=by rw[zX,if_neg (by omega),if_neg (by omega)]
 refine⟨_,CH (k.mono g) A.ex.len,?_⟩;rintro H3 i X xn xc pr ⟨Z,rfl⟩;have i:=aa g i;refine⟨_,_,_,_,_,_,_,_,_,_,_,_,_,_,_,_,Q,_,CD (G.mono i),?_⟩;rintro H4 m f vn vc U;have s4:=U.len;simp at s4;rw[f1,f2];refine⟨_,MK U (N.lI.pad _) (Z.mono m) g1 g2 g3 (by omega) (by omega) k.r1 k.r2 (k.set.mono (aa i m)) g4,?_⟩;rintro H5 s B5 a3 d5 E5 k5 e5 ⟨M,F⟩;have s:=aa i (aa m s);have O:=aax (jB (p:=x.vd) (ch:=λ v=>some (iw (gO x) v.vals x.set))) (acx 3 (mX (t:=t) (p:=x.vd) (es:=gO x) (r:=jU x)));have y:=zY (r:=r) (b:=52) (o.mono s) P M F (xX N D) D (by show t.vs.length+(fS x.vd _ (cW (iS t) x.vd _ _)).length<=100000000;omega);rw[B]at y;refine⟨_,y,?_⟩;rintro H6 a5 O6 R Y n' a4 T a9 a2 a1 a8 a6 a7 e u;rw[hR];exact⟨rfl,u⟩
end
end
section
def zZ (d:Db)(j:Nat)(t:eC)(s:bp):Db:=⟨d.now,d.nid,d.tabs.set j ⟨s,t.vs⟩⟩
def Ew (now:Int)(t:eC)(c:cz):Int×bp:=((eW t.sch c (now+1)).2,(eW t.sch c (now+1)).1)
def mY (a:ByteArray)(id:Int)(f:nz):Bool:=decide (f.table=a)&&f.refs.contains id
def gm (a:List eC)(b:ByteArray)(id:Int):Bool:=a.any λ u=>u.sch.fks.any (mY b id)
def Hq {u:eC}{b:List eC}{a:ByteArray}{id:Int}:gm (u::b) a id=(u.sch.fks.any (mY a id)||gm b a id):=aaS
def sR (now:Int)(a:List eC)(t:eC)(id:Int):Int×bp:=
 if(bN t.sch id (now+1)).2≠0 then((bN t.sch id (now+1)).2,kr)else if gm a t.sch.name id=true then(18,kr)else(0,(bN t.sch id (now+1)).1)
def rF (d:Db)(j:Nat)(t:eC)(R:Int×bp):Db:=if R.1=0 then zZ d j t R.2 else d
section
variable {H:Heap}{now nid:Int}{n:Nat}{xs:G'}{r:RL}{d:Db}{b j:Nat}{t:eC}
def ou.Qn {g q p k:D'}{o h e l f m r i:Nat}{c:ByteArray}{s:bp}(a:ou H now nid n xs d)(B:d.tabs[j]?=some t)(A:aV H c g o h q e l p f m k r i s):
  ou H now nid n (av xs (j*6+0) [.string c,.slice g o h,.slice q e l,.slice p f m,.slice k r i]) (zZ d j t s)/\j*6+0+5<=xs.length:=by
 obtain⟨y,rfl⟩:=aap.1 B;obtain⟨E,⟨x,J,D,L,Q,K,G,I,F,M,O,P,N,C,z,v,rfl,w⟩,-,b⟩:=a.row.vJ _;have u:xs.length=d.tabs.length*6:=a.row.length;refine⟨⟨a.now,a.nid,by rw[zZ,abd];exact a.len,?_⟩,by omega⟩;exact b (ah H) 0 _ _ (by show 0+5<=6;simp) ⟨c,g,o,h,q,e,l,p,f,m,k,r,i,C,z,v,rfl,A,w.vs⟩
def Ex {c:cz}(f:ou H now nid n xs d)(q:d.tabs[j]?=some t)(p:Lt d.now d.nid)(hv:t.sch.vers.length<=1000000)(w:str c.name)(s:ae .i64 c.kind):
  ZD 134 [.me,.lx 2 (j*6),.v (.agg ⟨[Φi c.id,.string c.name,Φi c.kind]⟩)] 30 (JQ now nid n xs r) H ux (Eu b) gL (ow (rF d j t (Ew d.now t c)) r (Ew d.now t c).1):=by
 obtain⟨i,l⟩:=aap.1 q;have y:=f.now;have R:=f.nid;have e3:=f.len;have Q:=p.n0;have n1:=p.n1;have k:oI (JQ now nid n xs r) [.me,.lx 2 (j*6),.v (.agg ⟨[Φi c.id,.string c.name,Φi c.kind]⟩)]:=⟨by show 0<n;omega,trivial⟩;refine uL 0 0 (aj [] [(1,[2,4,6,10,12,14,16,18,20,9,23,24,26,28,31,33,34,0,1,1,31,23,24,26,28,33,34,0,1,1,1,31,9,23,24,26,28,33,34,0])] []) (λ a=>∀b:Nat,ΦR (now+1)/\let d:=λ d e (f g:Nat) h (i k:Nat) l (m o:Nat) p (q s:Nat)=>C YO 207 [ΦG [ΦT d,S e f g,S h i k,S l m o,S p q s],ΦG [I c.id,ΦT c.name,I c.kind],I (now+1)] H λ t u v w x y z a0 a1 a2 a3 a4 a5 a6 a7=>J (a7=0) (j*6+0+5<=L xs/\b=b/\a now nid n (av xs (j*6+0) [ΦT u,S v w x,S y z a0,S a1 a2 a3,S a4 a5 a6]) r.hor r.hA r.hn r.hc r.cA r.cn r.cc a7 t ux) (b=b/\a now nid n xs r.hor r.hA r.hn r.hc r.cA r.cn r.cc a7 t ux);ΦF XP xs (j*6+0) 5 (λ e f g h i k l m o p q s t=>d e f g h i k l m o p q s t/\d e f g h i k l m o p q s t)/\ΦF XP xs (j*6+0) 5 λ e f g h i k l m o p q s t=>d e f g h i k l m o p q s t) k ?_;dsimp only[aQ,aR,eQ,C,ΦF,L,ΦR,J];intro a0;obtain⟨M,⟨B,G,m1,T,A2,D,W,A3,E,X,V,m4,U,P,m5,Z,rfl,m⟩,h,-⟩:=f.row.vJ i;rw[l]at m;have o:=h 0 5 (by decide);subst y;refine⟨by omega,⟨_,_,_,_,_,_,_,_,_,_,_,_,_,o,?_,?_⟩,_,_,_,_,_,_,_,_,_,_,_,_,_,o,?_⟩;all_goals
  refine⟨_,vm (x:=d.now+1) m.sch w s (by omega) (by omega),?_⟩;rintro H2 g u B1 A N B2 k2 f2 Y O f3 B4 k4 f4 F ⟨z,rfl⟩;have a:=(f.mono g).Qn q z;refine⟨λ e=>⟨a.2,rfl,?_⟩,λ e=>⟨rfl,?_⟩⟩
  .have e:=aab e;rw[rF,if_pos (show(Ew _ t c).1=0 from e)];exact⟨a.1,rfl,rfl,rfl⟩
  .have e:=aac e;rw[rF,if_neg (show¬(Ew _ t c).1=0 from e)];exact⟨f.mono g,rfl,rfl,rfl⟩
def Bt {id:Int}(f:ou H now nid n xs d)(X:d.tabs[j]?=some t)(hn:Lt d.now d.nid)(hv:t.sch.vers.length<=1000000)(a3:n<=1000):
  ZD 135 [.me,.lx 2 (j*6),.v (.int .i64 id)] 30 (JQ now nid n xs r) H ux (Eu b) gL (ow (rF d j t (sR d.now d.tabs t id)) r (sR d.now d.tabs t id).1):=by
 obtain⟨B,P⟩:=aap.1 X;have e1:=f.now;have e2:=f.nid;have e3:=f.len;have n0:=hn.n0;have n1:=hn.n1;have M:oI (JQ now nid n xs r) [.me,.lx 2 (j*6),.v (.int .i64 id)]:=⟨by show 0<n;omega,trivial⟩;refine uL 0 0 (aj [59] [(1,[2,4,6,10,12,14,16,18,20,9,23,24,26,28,31,33,34,0,1,1,31,23,24,26,28,33,34,0,1,1,1,31,9,23,24,26,28,33,34,0]),(10,[2,4,6,8,10,12,15,16,18,20,22,24,27,28,0])] [(5,[ag 35]),(8,[ag 43])]) (λ a=>∀b:Nat,ΦR (now+1)/\let c:=λ c d (e f:Nat) g (h i:Nat) k (l m:Nat) o (p q:Nat)=>C YO 208 [ΦG [ΦT c,S d e f,S g h i,S k l m,S o p q],I id,I (now+1)] H λ s t u v w x y z a0 a1 a2 a3 a4 a5 a6=>V (a6=0) (b=b/\a now nid n xs r.hor r.hA r.hn r.hc r.cA r.cn r.cc a6 s ux) (W ZE s (λ a7=>a7 0 s) (λ a7 a8 a9 b0=>J (b0<O n) (ΦY b0 n (ΦF XM xs (N b0*6) 6 (λ b1 b2 b3 b4 b5 b6 b7 b8 b9 c0 c1 c2 c3 c4 c5 c6=>W ZE a9 (λ c7=>c7 0 a9) λ c7 c8 c9 d0=>let d1:=λ(d1:Int) d2 d3 d4=>ΦR (d1+1)/\d2 (d1+1) d3/\d4 (d1+1)<d4 d1;J (d0<O b9) (ΦX b8 d0 b9 (ΦE Xu c9 b8 (N d0*3) (λ d2 d3 d4 d5 d6 d7 d8=>ΦF Xr xs (j*6+0+0) 1 λ d9=>J (d5=d9) (C ZO 209 [S d6 d7 d8,I id] c9 (λ e0 e1=>ΦQ e1 (b=b/\a now nid n xs r.hor r.hA r.hn r.hc r.cA r.cn r.cc 18 e0 ux) (d1 d0 c7 e0 c8))) (d1 d0 c7 c9 c8)))) (d1 b0 a7 c9 a8)))) (j*6+0+5<=L xs/\b=b/\a now nid n (av xs (j*6+0) [ΦT t,S u v w,S x y z,S a0 a1 a2,S a3 a4 a5]) r.hor r.hA r.hn r.hc r.cA r.cn r.cc 0 a9 ux)));ΦF XP xs (j*6+0) 5 (λ d e f g h i k l m o p q s=>c d e f g h i k l m o p q s/\c d e f g h i k l m o p q s)/\ΦF XP xs (j*6+0) 5 λ d e f g h i k l m o p q s=>c d e f g h i k l m o p q s) M ?_;dsimp only[PL,aQ,aR,aW,eQ,C,ΦE,ΦF,L,N,ΦQ,ΦR,W,ΦX,ΦY,O,V,J];intro a0;obtain⟨vs,⟨nm,A1,m1,c1,A2,m2,c2,A3,m3,c3,A4,m4,c4,A5,m5,c5,rfl,F⟩,g,-⟩:=f.row.vJ B;rw[P]at F;have w5:=g 0 5 (by decide);have w1:=g 0 1 (by decide);have q:=F.sch.name;subst e1;refine⟨by omega,⟨_,_,_,_,_,_,_,_,_,_,_,_,_,w5,?_,?_⟩,_,_,_,_,_,_,_,_,_,_,_,_,_,w5,?_⟩;all_goals
  refine⟨_,ue (x:=d.now+1) F.sch (by omega) (by omega),?_⟩;rintro H2 s a1 B1 k1 f1 B2 k2 f2 B3 k3 f3 B4 k4 f4 er ⟨hS,rfl⟩;refine⟨λ o=>⟨rfl,?_⟩,λ o=>?_⟩
  .have o:=aac (oL o);have A:sR d.now d.tabs t id=((bN t.sch id (d.now+1)).2,kr):=if_pos o;rw[A,rF,if_neg o];exact⟨f.mono s,rfl,rfl,rfl⟩
  have o:=aab (np o);have A:sR d.now d.tabs t id=if gm d.tabs t.sch.name id=true then(18,kr)else(0,(bN t.sch id (d.now+1)).1):=if_neg (by omega);refine⟨λ i _=>0<=i/\i<=n/\gm d.tabs t.sch.name id=gm (d.tabs.drop i.toNat) t.sch.name id,λ i=>n-i.toNat,⟨by omega,by omega,rfl⟩,?_⟩;rintro H3 a i ⟨Y,i1,w⟩;dsimp only;simp only[aad,aaf];have a:=aa s a;refine⟨λ E=>?_,λ R=>?_⟩
  .have y:i.toNat<d.tabs.length:=by omega
   obtain⟨us,⟨a2,D1,q1,g1,D2,q2,g2,D3,p,g3,D4,q4,g4,D5,q5,g5,rfl,hU⟩,m,-⟩:=(f.row.mono a).vJ y;have w6:=m 0 6 (by decide);rw[ak Y y,Hq]at w;have G:=hU.sch.fks;have s2:=G.len;have s3:=G.bn;refine⟨Y,E,_,_,_,_,_,_,_,_,_,_,_,_,_,_,_,_,w6,?_⟩;refine⟨λ k _=>0<=k/\k<=p/\d.tabs[i.toNat].sch.fks.any (mY t.sch.name id)=(d.tabs[i.toNat].sch.fks.drop k.toNat).any (mY t.sch.name id),λ k=>p-k.toNat,⟨by omega,by omega,rfl⟩,?_⟩;rintro H4 u k ⟨U,k1,z⟩;dsimp only;refine⟨λ c=>?_,λ c=>?_⟩
   .obtain⟨h5,hA,_,T,E1,p1,o1,E2,p2,o2,rfl,v1,v2,v3⟩:=G.at u U c;rw[ak U h5,aaS]at z;generalize d.tabs[i.toNat].sch.fks[k.toNat]=Z at*;have go:mY t.sch.name id Z=false->ae .i64 (k+1)/\(0<=k+1/\k+1<=p/\d.tabs[i.toNat].sch.fks.any (mY t.sch.name id)=(d.tabs[i.toNat].sch.fks.drop (k+1).toNat).any (mY t.sch.name id))/\p-(k+1).toNat<p-k.toNat:=λ h=>by
     grind
    refine⟨hA,U,c,_,_,_,_,_,_,_,T,_,w1,λ l=>⟨_,hI v3,?_⟩,λ l=>go ?_⟩
    .rintro H6 Q _ rfl;refine⟨λ D=>⟨trivial,?_⟩,λ D=>go ?_⟩
     .have:mY t.sch.name id Z=true:=by rw[mY,<-q,aau l,D];rfl
      rw[this,abE]at z;rw[z,abE]at w;rw[A,if_pos w,rF,if_neg (by simp)];exact⟨f.mono (aa a (aa u Q)),rfl,rfl,rfl⟩
     .rw[mY,D,acT]
    .rw[mY,<-q,aao l];rfl
   .rw[ai c s2]at z;grind
  .rw[ai (n:=n) R e3.symm]at w;have e:=(f.mono a).Qn X (hS.mono (by grind));rw[A,if_neg (by rw[w];simp[gm])];exact⟨e.2,trivial,e.1,rfl,rfl,rfl⟩
end
end
section
variable {a:Heap}{b:ByteArray}
def JT {n r c:Nat}{A:D'}{d b:G'}(i:(n+1)*136<=140737488355328)(f:b.length=6)(h:Cells a A 0 b)(e:1<=c):
  ZC 196 [.slice none 0 0,Φi n,.slice A 1 c] 0 53 n d false a ⟨false,[(false,[.row r 53])]⟩ (λ _ m g _=>m=n+1/\g=d++b):=by
 refine RY 0 {aj [67] [(11,[2,4,6,8,12,14,16,11,19,0]),(15,[2,4,6,8,10,12,14,16,19,0])] []with kb:=ir [22] [16]} (λ b=>let c:=(↑n:Int);0<=c/\c<=O n/\O n<=O n/\decide (O 1=0)=false/\decide (c=O n)=true/\∃e:G',Cells a A 0 e/\L e=1*6/\(n+1)*136<=M/\b (n+1) (d++e) a) ?_;dsimp only[L,M,O];grind
def Ey (a b:ByteArray):Prop:=Op.bytesLess a.toList b.toList=true
def Aa:ZB 255 [.string b] a fg (λ r _=>r=false):=by
 refine ΦK 0 bE (λ c=>c (!decide (b=b)) a) ?_;simp
def Ez {y:ByteArray}(h:Ey b y):ZB 195 [.string b,.string y] a gL (λ r _=>r= -1):=by
 refine ΦK 0 (aj [8,10] [] []) (λ c=>C ZO 255 [ΦT b] a λ d e=>C ZO 255 [ΦT y] d λ f g=>ΦQ e (ΦQ g (c 0 f) (c (-1) f)) (ΦQ g (c 1 f) (ΦQ (Op.bytesLess (ByteArray.toList b) (ByteArray.toList y)) (c (-1) f) False))) ?_;dsimp only[aQ,aR,C,ΦQ];refine⟨_,Aa,?_⟩;rintro e _ _ rfl;refine⟨_,Aa,?_⟩;rintro d _ _ rfl;exact⟨λ h=>(by simp),λ _=>⟨λ h=>(by grind),λ _=>⟨λ _=>rfl,λ c=>(by rw[h]at c;grind)⟩⟩⟩
def JU {c:G'}{t:eC}(e:Rep.rel a c t)(d:Ey t.sch.name b):ZB 194 [.agg ⟨c⟩,.string b] a gL (λ r _=>r= -1):=by
 obtain⟨f,k,w,m,v,y,p,u,i,q,o,j,n,l,g,s,rfl,h⟩:=e;rw[<-h.sch.name]at d;refine ΦK 0 (aj [9] [] []) (λ c=>C ZP 195 [ΦT f,ΦT b] a λ d e=>c e d) ?_;dsimp only[aQ,aR,C];exact⟨_,Ez d,λ _ _ _ h=>h⟩
def Uh {A:D'}{n c:Nat}{m:List eC}{x:ByteArray}(k:Sl a A n c m)(q:∀t∈m,Ey t.sch.name x):
  ZB 193 [.slice A n c,.string x,.func (.func 194) #[] #[]] a ⟨true,[(false,[.int .i64]),(false,[.bool])]⟩ (λ r _ _=>r=n):=by
 refine ΦK 0 (aj [30,46] [] [(3,[ag 9,ag 10])]) (λ b=>W ZK a (λ c=>c 0 (O n) a) λ c d e f g=>J (f<g) (ΦR (f+g)/\(∃h:Int,IntKind.wrap IntKind.u64 (f+g)=h/\(1:Int)=1/\∃i:Int,IntKind.wrap IntKind.i64 (Int.fdiv h 2)=i/\ΦX A i n (ΦE XM e A (N i*6) (λ j k l m o p q r s t u v w y z a0=>C ZP 194 [ΦG [ΦT j,S k l m,S o p q,S r s t,S u v w,S y z a0],ΦT x] e λ a1 a2=>J (a2<0) (ΦR (i+1)/\c (i+1) g a1/\d (i+1) g<d f g) (c f i a1/\d f i<d f g))))) (J (f<O n) (ΦX A f n (ΦE XM e A (N f*6) (λ h i j k l m o p q r s t u v w y=>C ZP 194 [ΦG [ΦT h,S i j k,S l m o,S p q r,S s t u,S v w y],ΦT x] e λ z a0=>b f (decide (a0=0)) z))) (b f false e))) ?_;dsimp only[PL,aQ,aR,aW,eQ,C,ΦE,N,ΦR,W,ΦX,O,J];have R:=k.len;have B:=k.bn;refine⟨λ i j _=>0<=i/\i<=n/\j=n,λ i j=>(j-i).toNat,⟨by omega,by omega,rfl⟩,?_⟩;rintro M l i j ⟨G,U,rfl⟩;dsimp only;simp only[aad,aaf];refine⟨λ o=>⟨by omega,_,rfl,trivial,_,rfl,?_⟩,λ g=>⟨λ h=>absurd h g,λ _=>(by omega)⟩⟩;rw[sG (by omega) (by omega)];have d:0<=(i+n)/2:=by omega
 have e:(i+(n))/2<n:=by omega
 obtain⟨T,p,_,s,b⟩:=k.at l d e;have f:=JU b (q _ (aan _));obtain⟨u,z,X,F,Y,D,I,V,w,P,L,y,Z,E,v,Q,rfl,-⟩:=b;refine⟨p,d,e,_,_,_,_,_,_,_,_,_,_,_,_,_,_,_,_,s,_,f,?_⟩;grind
def Hr {a:List eC}(h:∀t∈a,t.sch.name≠b):cO b a= -1:=by
 have c:∀(a:List eC) (i:Int),(∀t∈a,t.sch.name≠b)->idxOf (λ t=>decide (t.sch.name=b)) i a= -1:=by
  intro a;induction a with
  | nil=>intro i _;rfl
  | cons t r d=>intro i h;rw[idxOf];grind
 exact c _ 0 h
def Lx {c:ByteArray}(h:Ey b c):b≠c:=by
 have:∀l:List _,Op.bytesLess l l=false:=by
  intro l;induction l with
  | nil=>rfl
  | cons x r d=>simp[Op.bytesLess,d]
 rw[Ey]at h;grind
end
end Go.Vc
