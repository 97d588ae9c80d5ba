/- A part of the proof. -/
import Derived.Test.YtnkineaffgkicaaGreatDoorH19
import Derived.Test.YtnkineaffgkicaaGreatDoorH25
import Derived.Test.YtnkineaffgkicaaGreatDoorH26
set_option maxHeartbeats 0
set_option maxRecDepth 100000
set_option linter.unusedVariables false
set_option linter.defProp false
set_option linter.unusedSimpArgs false
namespace Go.Vc
open Go Go.Shelf Go.Proofs
section
variable {a g i j:Nat}{b:List aO}{c:Heap}{d:List (List az)}{e:I'}{f h:D'}
def HJ (a:List (List az)):List (Value×Value):=a.map λ v=>(Value.string (ee v),Value.agg ⟨[]⟩)
def NV (a:List (List az))(s:ByteArray):tp (HJ a) (ΦT s) true [] []:=by
 unfold tp;rcases h:cH _ _ with _ | v
 .rfl
 .have:v=Value.agg ⟨[]⟩:=by
   obtain⟨p,b,rfl⟩:=Option.map_eq_some_iff.1 h;have:=adw b;obtain⟨w,-,rfl⟩:=aaO.1 this;rfl
  rw[this];rfl
def HK (a:List (List az))(v:List az):th (HJ a) (ΦT (ee v))=decide (v∈a):=by
 rw[aaH,aad];unfold th HJ;rw[List.any_map,abD];constructor
 .rintro⟨u,c,b⟩;rw[lp (aab b)];grind
 .intro h;exact⟨v,h,aau rfl⟩
def QI {v:List az}(h:v∉d):fL (HJ d) (ΦT (ee v)) (.agg ⟨[]⟩)=HJ (d++[v]):=by
 induction d with
 | nil=>rfl
 | cons u d a=>
  simp at h;have b:cK (ΦT _) (ΦT _)=false:=aao λ e=>h.1 (lp e);have e:HJ (u::d)=(ΦT _,Value.agg _)::HJ _:=rfl;rw[e,fL,if_neg (by grind),a h.2];rfl
def vP (l:List aO)(a:I'):Prop:=∀t∈l,(keyBytes (aJ t.vals a)).length<=140737488355328
def cS.nil:cS [] [] e:=λ v=>by simp[bZ]
def cS.skip (c:a<b.length)(h:cS d (b.take a) e)(f:dm b[a].p=false):cS d (b.take (a+1)) e:=by
 intro v;rw[h v,jC c,if_neg (by grind),aar]
def cS.ef (g:a<b.length)(h:cS d (b.take a) e)(j:aJ b[a].vals e∈d):cS d (b.take (a+1)) e:=by
 intro v;rw[jC g];by_cases f:dm b[a].p=true
 .rw[if_pos f];simp only[aam,aaD];constructor
  .intro c;obtain⟨k,m,n⟩:=(h v).1 c;grind
  .rintro⟨k,c | rfl,rfl⟩
   .exact(h _).2 ⟨k,c,rfl⟩
   grind
 .rw[if_neg f,aar];exact h v
def cS.new (g:a<b.length)(h:cS d (b.take a) e)(f:dm b[a].p=true):cS (d++[aJ b[a].vals e]) (b.take (a+1)) e:=by
 intro v;rw[jC g,if_pos f];simp only[aam,aaD];constructor
 .rintro(c | rfl)
  .obtain⟨k,j,m⟩:=(h v).1 c;grind
  simp
 .rintro⟨k,c | rfl,rfl⟩
  .exact .inl ((h _).2 ⟨k,c,rfl⟩)
  simp
def NW:Sort.SWO (ltOf bK)where
 irrefl x:=by simp[ltOf,aD.refl]
 trans x y z h1 h2:=by
  simp[ltOf]at*;have b:=aD.sign x y;have d:=aD.sign y z;have:=aD.trans x y z (by omega) (by omega);omega
 ntrans x y z h1 h2:=by
  simp only[ltOf,aaf]at*;intro h;have b:=aD.sign x y;have c:=aD.sign x z;have e:=aD.anti x y;rcases Int.lt_or_eq_of_le (show 0<=bK x y by omega)with a | a
  .have f:=aD.trans y x z (by omega) (by omega);omega
  .have:=cR.1 a.symm;grind
def Aq:Go.Shelf.Ren:=⟨λ | 6=>251 | 15=>239 | 14=>324 | 28=>315 | 29=>316 | 20=>415 | 21=>416 | 22=>417 | 23=>418 | 24=>419 | 25=>420 | 26=>421 | 27=>422 | 46=>482 | 47=>399 | 48=>400 | 49=>483 | 50=>484 | 57=>516 | n=>n,λ | 22=>269 | 24=>34 | 25=>76 | 3=>3 | 39=>310 | 0=>0 | 53=>404 | 55=>406 | 4=>4 | 46=>398 | 45=>397 | 50=>252 | 5=>5 | 9=>9 | 66=>483 | 70=>487 | 76=>567 | 77=>232 | n=>n,λ n=>n⟩
def Kh:SlLaysF.n6 Tryz.prog Aq:=by
 constructor<;>first | kernel_rfl | exact λ _=>by kernel_rfl | exact ab3 (by kernel_rfl) (by kernel_rfl)
def HL {p:G'}(w:Row c p d)(r:d.length=a)(x:a<=140737488355328):
  ZC 251 [.slice none 0 0,.func (.func 116) #[] #[]] 0 34 a p true c ⟨true,[]⟩ (λ y (q:Heap)=>∃m:List (List az),Row q y m/\m.Perm d/\m.Pairwise (λ g b=>¬bK b g<0)):=by
 have h:=NU (T:=List _) rfl Kh (by rfl) w r x (f:=116) (cap:=[]) (cf:=bK) ⟨_,Tryz.func116,rfl,by rfl⟩ NW (λ q v u s t z o k=>by
  obtain⟨A,a,j,e,o⟩:=o;obtain⟨B,m,i,D,k⟩:=k;obtain rfl:v= .slice A a j:=by grind
  obtain rfl:u= .slice B m i:=by grind
  exact cL o k)
 exact h
def rH (hT:mr c)(Z:Sl c f a g b)(ht:Sl c h i j e)(hb:i*32<=140737488355328)(hf:vP b e):
  ZB 187 [S f a g,S h i j] c fi (λ A' n' c' H'=>∃D:List (List az),Sl H' A' n' c' D/\n'<=a/\oz D/\cS D b e):=by
 refine ΦK 1 {aj [22,29] [] [(4,[.slot 6 false [.row 49 34],ag 16])]with mt:=ir [251] [],opn:=true} (λ b=>∀(d:Nat)(e:Nat->Option XO),Tu ux e d 328->vb ZG c (λ g=>g 0 [] 0 c e) λ g k l m n o p=>J (p<O a) (ΦX f p a (ΦE ZI l f (N p*4) (λ q r s t u v w x=>C ZO 139 [ΦG [I t,I u]] l λ y z=>let a0:=λ a0=>ΦR (p+1)/\g n o (p+1) a0 m/\k n o (p+1)<k n o p;ΦQ (!z) (a0 y) (C ZT 164 [S q r s,S h i j] y (λ a1 a2 a3 a4=>C YE 120 [S a2 a3 a4] a1 λ a5 a6=>∃a7:List (Value×Value),UU m (some d) 328 a7/\tp a7 (ΦT a6) true [] []/\ΦQ (!th a7 (ΦT a6)) (∃a8:List (Value×Value),UW m (some d) 328 a8/\∀a9:Nat->Option XO,UX m a9 (some d) 328 (fL a8 (ΦT a6) (ΦG []))->(n+1)*24<=M/\ΦR (p+1)/\g (n+1) (o++[Value.slice a2 a3 a4]) (p+1) a5 a9/\k (n+1) (o++[Value.slice a2 a3 a4]) (p+1)<k n o p) (a0 a5)))))) (ZZ ZV 251 [S none 0 0,.func (.func 116) ⟨[]⟩ ⟨[]⟩] 0 34 n o true l (λ q r=>U q r n λ s t u=>b s n t u))) ?_;dsimp only[PL,aQ,aR,aW,eQ,C,ZZ,ΦE,M,N,ΦQ,ΦR,vb,ΦX,O,J];have hl:=Z.len;have a7:a*64<=140737488355328:=Z.bnd;rintro P O1 ⟨-,X,-⟩;refine⟨λ k xs o H' O'=>0<=o/\o<=a/\∃q:List (List az),Row H' xs q/\q.length=k/\q.Nodup/\cS q (b.take o.toNat) e/\O' P=some (.mp 328 (HJ q)),λ _ _ o=>a-o.toNat,y' ⟨[],rfl,rfl,List.nodup_nil,cS.nil,X⟩,?_⟩;rintro H2 w O2 k xs o ⟨h0,h1,q,R,L,t,r,Q⟩;have e1:(o+1).toNat=o.toNat+1:=by omega
 have V:=HF t r;rw[aaE]at V;refine ΦD (λ x=>?_) λ a2=>?_
 .obtain⟨hi,hA,_,hc,⟨A9,n9,c9,a5,a3,a8,rfl,q1,q2,q3,q4⟩⟩:=Z.at w h0 x;refine⟨hA,h0,x,_,_,_,_,_,_,_,_,hc,_,bX,?_⟩;rintro H3 E _ rfl;refine⟨λ s=>?_,λ s=>?_⟩
  .have s:dm b[o.toNat].p=false:=by simp_all
   exact u' ⟨y' ⟨q,R.mono E,L,t,by rw[e1];exact r.skip _ s,Q⟩,by grind⟩
  .have s:dm b[o.toNat].p=true:=by simp_all
   refine⟨_,jy (q1.mono E) (ht.mono (aa w E)) hb,?_⟩;intro H4 W A4 n4 c4 h4;have z:=aa E W;refine⟨_,rl (hT.mono (aa w z)) h4 (hf _ (aan _)),?_⟩;rintro H5 l5 _ rfl;have G:=aa z l5;refine⟨_,.inr ⟨P,rfl,Q⟩,NV _ _,λ u=>?_,λ u=>?_⟩
   .rw[HK]at u;have u:aJ b[o.toNat].vals e∉q:=by grind
    refine⟨_,⟨P,rfl,Q⟩,?_⟩;rintro a6 ⟨a0,a4,F,-⟩;obtain rfl:P=a0:=by grind
    rw[QI u]at F;refine y' ⟨y' ⟨q++[aJ _ _],(R.mono G).append (Row.one ⟨_,_,_,rfl,h4.mono l5⟩),by grind,?_,by rw[e1];exact r.new _ s,F⟩,by grind⟩;grind
   .rw[HK]at u;have u:aJ b[o.toNat].vals e∈q:=by grind
    exact u' ⟨y' ⟨q,R.mono G,L,t,by rw[e1];exact r.ef _ u,Q⟩,by grind⟩
 .rw[aag (by omega)]at r;refine⟨_,HL R L (by omega),?_⟩;rintro H3 E ys ⟨D,hv,s,a1⟩ A4 c4 H4 W Y T;have y:=s.nodup_iff.2 t;exact⟨D,hv.sl W Y (by rw[s.length_eq,L]) T (by show k*24<=_;omega) (by omega),by omega,qy a1 y,λ v=>by rw[s.mem_iff];exact r v⟩
def xF {o:D'}{k e:Nat}{cols:I'}{key:List az}(T:Sl c f a g b)(ht:Sl c h i j cols)(hu:Sl c o k e key)(hb:i*32<=140737488355328):
  ZB 189 [S f a g,S h i j,S o k e] c fi (λ A' Z c' w=>Sl w A' Z c' (bb b cols key)):=by
 refine ΦK 1 (aj [18,25] [] [(3,[.slot 7 false [.row 34 107],ag 12])]) (λ b=>W ZG c (λ d=>d 0 [] 0 c) λ d g l m n p=>J (p<O a) (ΦX f p a (ΦE ZI l f (N p*4) (λ q r s t u v w x=>C ZO 139 [ΦG [I t,I u]] l λ y z=>let a0:=λ a0=>ΦR (p+1)/\d m n (p+1) a0/\g m n (p+1)<g m n p;ΦQ z (C ZT 164 [S q r s,S h i j] y (λ a1 a2 a3 a4=>C ZP 116 [S a2 a3 a4,S o k e] a1 λ a5 a6=>J (a6=0) ((m+1)*64<=M/\ΦR (p+1)/\(let a7:=n++[Value.slice q r s,I t,I u,S v w x];d (m+1) a7 (p+1) a5/\g (m+1) a7 (p+1)<g m n p)) (a0 a5))) (a0 y)))) (U l n m (λ q r s=>b q m r s))) ?_;dsimp only[PL,aQ,aR,aW,eQ,C,ΦE,M,N,ΦQ,ΦR,W,ΦX,O,J];have hl:=T.len;have a2:a*64<=140737488355328:=T.bnd;refine⟨λ k R q w=>0<=q/\q<=a/\k=(bb (b.take q.toNat) cols key).length/\Row w R (bb (b.take q.toNat) cols key),λ _ _ q=>a-q.toNat,y' ⟨rfl,rfl⟩,?_⟩;rintro H2 v k R q ⟨X,h1,G,E⟩;have s:=eG (b.take q.toNat) cols key;rw[aaE]at s;have V:(q+1).toNat=q.toNat+1:=by omega
 refine ΦD (λ x=>?_) λ Y=>?_
 .obtain⟨hi,hA,_,hc,t⟩:=T.at v X x;obtain⟨A9,n9,c9,a1,a0,a3,rfl,q1,q2,q3,q4⟩:=id t;have r:=lj (cols:=cols) (key:=key) hi;have skip:(dm b[q.toNat].p&&decide (bK (aJ b[q.toNat].vals cols) key=0))=false->∀{w:Heap},Heap.le H2 w->ae .i64 (q+1)/\(0<=q+1/\q+1<=a/\k=(bb (b.take (q+1).toNat) cols key).length/\Row w R (bb (b.take (q+1).toNat) cols key))/\a-(q+1).toNat<a-q.toNat:=by
   intro hf w l';rw[if_neg (by simp[hf]),aar]at r;exact u' ⟨y' ⟨by rw[V,r];exact G,by rw[V,r];exact E.mono l'⟩,by omega⟩
  refine⟨hA,X,x,_,_,_,_,_,_,_,_,hc,_,bX,?_⟩;rintro H3 z _ rfl;refine⟨λ P=>?_,λ P=>?_⟩
  .have L:dm b[q.toNat].p=true:=P;refine⟨_,jy (q1.mono z) (ht.mono (aa v z)) hb,?_⟩;intro H4 D A4 n4 c4 h4;refine⟨_,cL h4 (hu.mono (aa v (aa z D))),?_⟩;rintro H5 l5 _ rfl;have u:=aa z (aa D l5);refine⟨λ he=>?_,λ he=>skip (by grind) u⟩;rw[if_pos (by grind)]at r;refine y' ⟨y' (T' ?_),by grind⟩;rw[V,r];exact(E.mono u).append (Row.one (Rep.mono u t))
  .have L:dm b[q.toNat].p=false:=P;grind
 .have y:b.take q.toNat=b:=aag (by omega);have s:=eG b cols key;rw[y]at G E;intro A4 c4 H4 D Q F;exact E.sl D Q G.symm F (by show k*64<=_;omega) (by omega)
def Ar {g:bc}(c:a<b.length):aG ((b.take (a+1)).filter (eZ g))=aG ((b.take a).filter (eZ g))++(if eZ g b[a]then b[a].lin else[]):=by
 rw[aaj c,abB,oC];by_cases h:eZ g b[a]=true
 .rw[if_pos h,aba,if_pos h];simp[aG]
 .rw[if_neg h,aba,if_neg h];rfl
def As (l:List aO)(g:bc)(i:Nat):(aG ((l.take i).filter (eZ g))).length<=(aG l).length:=
 kG (aci.trans (ach i l))
def uv {d:Nat}{g:bc}(E:Sl c f a d b)(hb:(aG b).length*8<=140737488355328):
  ZB 190 [S f a d,.agg ⟨[Φi g.lo,Φi g.hi]⟩] c fi (λ A' n' c' I=>Sl I A' n' c' (HC b g).ids):=by
 refine ΦK 2 {aj [] [] [(3,[.slot 5 false [.row 36 3],ag 10])]with res:=wj [(34,⟨false,[(false,[.row 35 3])]⟩)]} (λ b=>W ZG c (λ d=>d 0 [] 0 c) λ d e h i j k=>J (k<O a) (ΦX f k a (ΦE ZI h f (N k*4) (λ l m n o p q r s=>let t:=∃t:G',Cells h q 0 t/\L t=r*1/\(i+r)*8<=M/\ΦR (k+1)/\d (i+r) (j++t) (k+1) h/\e (i+r) (j++t) (k+1)<e i j k;J (p=g.lo) t (J (o=g.hi) t (ΦR (k+1)/\d i j (k+1) h/\e i j (k+1)<e i j k))))) (U h j i (λ l m n=>C YX 237 [S l i m,S none 0 0] n λ o p q=>U o q p λ r s t=>b r p s t))) ?_;dsimp only[PL,aQ,aR,aW,eQ,C,ΦE,L,M,N,ΦR,W,ΦX,O,J];have hl:=E.len;have a1:=E.bn;refine⟨λ k B i I=>0<=i/\i<=a/\k=(aG ((b.take i.toNat).filter (eZ g))).length/\Row I B (aG ((b.take i.toNat).filter (eZ g))),λ _ _ i=>a-i.toNat,y' ⟨rfl,rfl⟩,?_⟩;rintro V G k B i ⟨P,h1,Q,z⟩;have e1:(i+1).toNat=i.toNat+1:=by omega
 refine ΦD (λ p=>?_) λ Z=>?_
 .obtain⟨hi,hA,_,hc,⟨A9,n9,c9,D,o,a3,rfl,q1,q2,q3,x⟩⟩:=E.at G P p;have j:=Ar (g:=g) hi;have m:=As b g (i.toNat+1);have s:eZ g b[i.toNat]=true->∃t,Cells V D 0 t/\t.length=o*1/\(k+o)*8<=140737488355328/\ae .i64 (i+1)/\(0<=i+1/\i+1<=a/\k+o=(aG ((b.take (i+1).toNat).filter (eZ g))).length/\Row V (B++t) (aG ((b.take (i+1).toNat).filter (eZ g))))/\a-(i+1).toNat<a-i.toNat:=by
   intro h;rw[if_pos h]at j;have q:=aak List.length j;rw[aae,x.len]at q;obtain⟨t,y1,Y⟩:=x.row;refine⟨t,y1,by rw[Y.length,x.len];rfl,y' ⟨y' (T' ?_),by omega⟩⟩;rw[e1,j];exact z.append Y
  refine⟨hA,P,p,_,_,_,_,_,_,_,_,hc,λ h=>s ?_,λ h=>⟨λ v=>s ?_,λ v=>?_⟩⟩
  .simp[eZ,h]
  .simp[eZ,v]
  .rw[if_neg (by simp only[eZ,h,v];simp)]at j;exact u' ⟨y' (T' (by grind)),by grind⟩
 .have m:=As b g i.toNat;rw[aag (by omega)]at Q z m;intro A4 c4 H4 l4 y u;refine⟨_,iL (r:=35) (z.sl l4 y Q.symm u (by show k*8<=_;omega) (by omega)) (Sl.nil (T:=Int)) (by omega),?_⟩;rintro H5 l5 k5 a0 ⟨R,X⟩ A6 c6 H6 l6 F w;have e:cx (aG (b.filter (eZ g))) []=(HC b g).ids:=by
   unfold cx HC canon;simp
  rw[e]at R X;have a2:(HC b g).ids.length<=(aG _).length:=dS _;exact X.sl l6 F R.symm w (by show k5*8<=_;omega) (by omega)
def sV {o:D'}{k e:Nat}{cols:I'}{key:List az}(G:Sl c f a g b)(Z:Sl c h i j cols)(hu:Sl c o k e key)(hb:i*32<=140737488355328):
  ZB 188 [S f a g,S h i j,S o k e] c fi (λ A' X Y L=>Sl L A' X Y (HB b cols key)):=by
 refine ΦK 1 (aj [21] [] [(3,[.slot 7 false [.row 31 36],ag 12])]) (λ b=>W ZG c (λ d=>d 0 [] 0 c) λ d g l m n p=>J (p<O a) (ΦX f p a (ΦE ZI l f (N p*4) (λ q r s t u v w x=>C ZT 164 [S q r s,S h i j] l λ y z a0 a1=>C ZP 116 [S z a0 a1,S o k e] y λ a2 a3=>J (a3=0) ((m+1)*16<=M/\ΦR (p+1)/\d (m+1) (n++[Value.int .i64 t,I u]) (p+1) a2/\g (m+1) (n++[Value.int .i64 t,I u]) (p+1)<g m n p) (ΦR (p+1)/\d m n (p+1) a2/\g m n (p+1)<g m n p)))) (U l n m (λ q r s=>C ZT 177 [S q m r] s λ t u v w=>b u v w t))) ?_;dsimp only[PL,aQ,aR,aW,eQ,C,ΦE,M,N,ΦR,W,ΦX,O,J];have hl:=G.len;have a3:a*64<=140737488355328:=G.bnd;have v:∀r,(Ah (b.take r) cols key).length<=r:=λ r=>by
  have:(Ah (b.take r) cols key).length<=(b.take r).length:=abm _ _;rw[aaE]at this;omega
 refine⟨λ k Q r L=>0<=r/\r<=a/\k=((Ah (b.take r.toNat) cols key).map (·.p)).length/\Row L Q ((Ah (b.take r.toNat) cols key).map (·.p)),λ _ _ r=>a-r.toNat,y' ⟨rfl,rfl⟩,?_⟩;rintro H2 t k Q r ⟨P,h1,D,y⟩;have a0:=v r.toNat;have E:=D;rw[aaQ]at E;have R:(r+1).toNat=r.toNat+1:=by omega
 refine ΦD (λ u=>?_) λ V=>?_
 .obtain⟨hi,hA,_,hc,⟨A9,n9,c9,a2,a1,a4,rfl,q1,q2,q3,q4⟩⟩:=G.at t P u;have s:=aak (List.map (·.p)) (NN (cols:=cols) (key:=key) hi);rw[aaR]at s;refine⟨hA,P,u,_,_,_,_,_,_,_,_,hc,_,jy q1 (Z.mono t) hb,?_⟩;intro H4 x A4 n4 c4 h4;refine⟨_,cL h4 (hu.mono (aa t x)),?_⟩;rintro H5 l5 _ rfl;have w:=aa x l5;refine⟨λ T=>?_,λ T=>?_⟩
  .rw[if_pos T]at s;refine y' ⟨y' (T' ?_),by grind⟩;rw[R,s];exact(y.mono w).append (Row.one ⟨rfl,q2,q3⟩)
  .rw[if_neg (by grind),List.map_nil,aar]at s;exact u' ⟨y' (T' (by rw[R,s];exact y.mono w)),by grind⟩
 .rw[aag (by omega)]at D y;intro A4 c4 H4 x F z;exact⟨_,bP (y.sl x F D.symm z (by show k*16<=_;omega) (by omega)),λ _ _ _ _ _ q=>q⟩
def Bz (o:Sl c f a g b):
  ZB 163 [S f a g] c fi (λ z v w r=>Sl r z v w (norm (b.map (·.p)))):=by
 refine ΦK 1 (aj [] [] [(3,[.slot 3 false [.row 20 36],ag 8])]) (λ b=>W ZG c (λ d=>d 0 [] 0 c) λ d e g h i j=>J (j<O a) (ΦX f j a (ΦE ZI g f (N j*4) (λ k l m n o p q r=>(h+1)*16<=M/\ΦR (j+1)/\d (h+1) (i++[Value.int .i64 n,I o]) (j+1) g/\e (h+1) (i++[Value.int .i64 n,I o]) (j+1)<e h i j))) (U g i h (λ k l m=>C ZT 230 [S k h l] m λ n o p q=>b o p q n))) ?_;dsimp only[PL,aQ,aR,aW,eQ,C,ΦE,M,N,ΦR,W,ΦX,O,J];have hl:=o.len;have L:a*64<=140737488355328:=o.bnd;refine⟨λ k t i r=>0<=i/\i<=a/\k=i.toNat/\Row r t ((b.take i.toNat).map (·.p)),λ _ _ i=>a-i.toNat,P' ⟨rfl,rfl⟩,?_⟩;rintro H2 q k t i ⟨s,Z,T,m⟩;have G:(i+1).toNat=i.toNat+1:=by omega
 refine ΦD (λ d=>?_) λ u=>?_
 .obtain⟨F,y,_,P,⟨A9,n9,V,E,B,Q,rfl,Y,R,x,q4⟩⟩:=o.at q s d;refine⟨y,s,d,_,_,_,_,_,_,_,_,P,y' ⟨J' ?_,by grind⟩⟩;rw[G,aaj F,aaR];exact m.append (Row.one ⟨rfl,R,x⟩)
 .rw[aag (by omega)]at m;intro A4 c4 X D j e;exact⟨_,Ag (m.sl D j (by grind) e (by show k*16<=_;omega) (by omega)),λ _ _ _ _ _ h=>h⟩
end
def lq (l:List aO)(a:I')(v:List az):(aG (bb l a v)).length<=(aG l).length:=kG aci
def Ki {H:Heap}{A B:D'}{n c m d:Nat}{l:List aO}{b:I'}(hs:Sl H A n c l)(ht:Sl H B m d b)(hb:m*32<=140737488355328)(hn:n<=1700)(d0:(aG l).length*8<=140737488355328):
  ZB 114 [S A n c,S B m d] H fi (λ A' n' c' Q=>∃e:List (List az),oz e/\cS e l b/\Sl Q A' n' c' (e.flatMap (gI l b))):=by
 refine ΦK 2 (aj [] [(11,nf),(16,ab 2 20 [0])] [(4,[.slot 5 false [.row 91 241],ag 7]),(9,[.slot 5 false [.row 92 241],ag 10]),(14,[.slot 12 false [.sl],ag 13])]) (λ a=>C ZT 109 [S A n c,S B m d] H λ b e f g=>W ZG b (λ h=>h 0 [] 0 b) λ h i j k l o=>J (o<O f) (ΦX e o f (ΦE ZM j e (N o*2+0) (λ p q r=>C ZT 110 [S A n c,S B m d,S p q r] j λ s t u v=>C ZT 163 [S t u v] s λ w x y z=>W ZG w (λ a0=>a0 k l 1 w) λ a0 a1 a2 a3 a4 a5=>J (a5<O y) (ΦR (a5-1)/\ΦX x (a5-1) y (ΦE ZE a2 x (N (a5-1)*2+1) (λ a6=>ΦX x a5 y (ΦE ZE a2 x (N a5*2+0) (λ a7=>W XJ a2 (λ a8=>a8 none 0 0 0 a2) λ a8 a9 b0 b1 b2 b3 b4=>J (b4<O u) (ΦX t b4 u (ΦE ZE b0 t (N b4*4+1+1) (λ b5=>let b6:=ΦX t b4 u (ΦE ZM b0 t (N b4*4+3) (λ b6 b7 b8=>C ZT 161 [S b1 b2 b3,S b6 b7 b8] b0 λ b9 c0 c1 c2=>ΦR (b4+1)/\a8 c0 c1 c2 (b4+1) b9/\a9 c0 c1 c2 (b4+1)<a9 b1 b2 b3 b4));J (b5=a6) b6 (ΦX t b4 u (ΦE ZE b0 t (N b4*4+1+0) (λ b7=>J (b7=a7) b6 (ΦR (b4+1)/\a8 b1 b2 b3 (b4+1) b0/\a9 b1 b2 b3 (b4+1)<a9 b1 b2 b3 b4))))))) ((a3+1)*40<=M/\ΦR (a5+1)/\(let b5:=a4++[Value.int .i64 a6,I a7,S b1 b2 b3];a0 (a3+1) b5 (a5+1) b0/\a1 (a3+1) b5 (a5+1)<a1 a3 a4 a5))))))) (ΦR (o+1)/\h a3 a4 (o+1) a2/\i a3 a4 (o+1)<i k l o)))) (U j l k (λ p q r=>a p k q r))) ?_;dsimp only[PL,aQ,aR,aW,eQ,C,ΦE,M,N,ΦR,W,ΦX,O,J];have hl:=hs.len;refine⟨_,oB hs ht hb (by omega),?_⟩;rintro H1 l1 A3 n4 c5 ⟨rs,a7,f2,D,z⟩;have c0:=a7.len;generalize Y:rs.map (·.vals)=e at D z;have f3:e.length=n4:=by rw[<-Y,aaQ,c0]
 have a5:∀i (h:i<rs.length) (h':i<e.length),e[i]=rs[i].vals:=by intro i h h';subst Y;simp
 refine⟨λ k xs i Q=>0<=i/\i<=n4/\Row Q xs ((e.take i.toNat).flatMap (gI l b))/\k=((e.take i.toNat).flatMap (gI l b)).length/\k<=i.toNat*1700,λ _ _ i=>n4-i.toNat,y' ⟨rfl,rfl,by omega⟩,?_⟩;rintro H9 l9 k xs i ⟨i0,i1,hr,hk,d7⟩;refine ΦD (λ Z=>?_) λ f1=>?_
 .obtain⟨hi,hA,_,hc,⟨A9,n9,c9,B9,m9,d9,rfl,q1,q2⟩⟩:=a7.at l9 i0 Z;have V:i.toNat<e.length:=by omega
  rw[<-a5 _ hi V]at q1;have e1:(i+1).toNat=i.toNat+1:=by omega
  have a1:(e.take (i+1).toNat).flatMap (gI l b)=(e.take i.toNat).flatMap (gI l b)++gI l b e[i.toNat]:=by
   rw[e1,aaj V,abo];simp
  have c7:=CM l b e[i.toNat];have b1:=Aj l b e[i.toNat];have b0:=lq l b e[i.toNat];generalize e[i.toNat]=v at q1 a1 c7 b1 b0;have T:=aa l1 l9;refine⟨hA,i0,Z,_,_,_,hc.cy (k:=0) rfl,_,jj (hs.mono T) (ht.mono T) q1 hb,?_⟩;intro d5 b4 e9 s f7 hw;refine⟨_,Bz hw,?_⟩;intro e8 a6 f9 a3 d1 hp;rw[NO]at hp;have hF:gI l b v=iV (bb l b v) (HB l b v):=rfl;have c2:=hp.len;have b8:=hw.len;have e4:=hw.bn;generalize bb l b v=a at hw hF b0 b8;generalize HB l b v=cs at hp hF c2 b1;generalize (e.take i.toNat).flatMap (gI l b)=O0 at hr hk a1;subst hk;refine⟨λ k2 a0 j Q=>1<=j/\(j<=a3\/j=1)/\∃w:List cT,Row Q a0 (O0++w)/\k2=(O0++w).length/\w.length+1<=j.toNat/\gI l b v=w++iV a (cs.drop (j.toNat-1)),λ _ _ j=>a3-j.toNat,
   (y' ⟨[],by simpa using(hr.mono (aa b4 a6)),P' (by simpa using hF)⟩),?_⟩
  rintro f0 F k2 a0 j ⟨j0,j1,w,b3,rfl,d8,he⟩;have b5:ae .i64 (j+1):=by omega
  refine ΦD (λ a2=>?_) λ d6=>?_
  .have hj:j.toNat<cs.length:=by omega
   obtain⟨_,hB,_,hd,⟨rfl,r1,r2⟩⟩:=hp.at F (i:=j-1) (by omega) (by omega);obtain⟨_,b2,_,L,⟨rfl,r3,r4⟩⟩:=hp.at F (i:=j) (by omega) a2;have e2:(j-1).toNat=j.toNat-1:=by omega
   simp only[e2]at r1 r2 hd;rw[LD (by omega) hj]at he;have hd:=hd.cy (k:=1) rfl;have L:=L.cy (k:=0) rfl;generalize cs[j.toNat-1].hi=f at*;generalize cs[j.toNat].lo=t at*;refine u' ⟨hB,y' ⟨_,by rw[e2];exact hd,b2,by omega,a2,_,L,?_⟩⟩;refine⟨λ A n' c q Q=>0<=q/\q<=s/\Sl Q A n' c (canon (aG ((a.take q.toNat).filter (eZ ⟨f,t⟩)))),λ _ _ _ q=>s-q.toNat,y' (by rw[show canon (aG ((a.take (0:Int).toNat).filter (eZ ⟨f,t⟩)))=[]from vO];exact Sl.nil),?_⟩;rintro a9 a4 b6 c3 c8 q ⟨q0,e3,o⟩;have R:=aa a6 (aa F a4);have f6:=o.len;have f8:=dS (aG ((a.take q.toNat).filter (eZ ⟨f,t⟩)));have d3:ae .i64 (q+1):=by omega
   refine ΦD (λ r=>?_) λ d4=>?_
   .obtain⟨hq,hC,_,y,⟨e5,f5,d2,c1,c6,b7,rfl,p1,p2,p3,p4⟩⟩:=hw.at R q0 r;have u:=Ar (g:=⟨f,t⟩) hq;have f4:=As a ⟨f,t⟩ (q.toNat+1);have e0:=p4.len;have go:eZ ⟨f,t⟩ a[q.toNat]=true->∃p,ZB 161 [S b6 c3 c8,S c1 c6 b7] a9 fi p/\∀x,Heap.le a9 x->∀G E P,p G E P x->ae .i64 (q+1)/\(0<=q+1/\q+1<=s/\Sl x G E P (canon (aG ((a.take (q+1).toNat).filter (eZ ⟨f,t⟩)))))/\s-(q+1).toNat<s-q.toNat:=by
     intro h;rw[if_pos h]at u;have X:=aak List.length u;rw[aae]at X;refine⟨_,dC o p4 (by omega),?_⟩;intro x e6 G E P hm;rw[lk]at hm;grind
    refine⟨hC,q0,r,_,y.cy (k:=2) rfl,λ h=>⟨hC,q0,r,_,_,_,y.cy (k:=3) rfl,go ?_⟩,λ h=>⟨hC,q0,r,_,y.cy (k:=1) rfl,λ h2=>⟨hC,q0,r,_,_,_,y.cy (k:=3) rfl,go ?_⟩,λ h2=>?_⟩⟩
    .simp[eZ,h]
    .simp[eZ,h2]
    .rw[if_neg (by simp only[eZ,h,h2];simp)]at u;grind
   .rw[aag (by omega)]at o;have e7:(O0++w).length<=4000000:=by
     grind
    refine u' ⟨b5,y' ⟨w++[HC a ⟨f,t⟩],?_,U' ?_⟩,by grind⟩
    .rw[<-aat];exact(b3.mono a4).append (Row.one ⟨_,_,_,rfl,r2,r3,o⟩)
    .rw[he,show(j+1).toNat-1=j.toNat from by omega];simp
  .rw[HD (by omega) (by omega)]at he;refine u' ⟨y' (U' ?_),by grind⟩;grind
 .rw[aag (by omega)]at hr hk;intro A4 c4 H4 l4 b9 a8;exact⟨e,D,z,hr.sl l4 b9 hk.symm a8 (by show k*40<=_;omega) (by omega)⟩
def xG {H:Heap}{A B:D'}{n c m d:Nat}{l:List aO}{b:I'}(hT:mr H)(Z:Sl H A n c l)(ht:Sl H B m d b)(hb:m*32<=140737488355328)(hn:n<=1700)(a9:(aG l).length*8<=140737488355328)(hf:vP l b):
  ZB 122 [S A n c,S B m d] H fi (λ A' n' c' P=>∃e:List (List az),oz e/\cS e l b/\Sl P A' n' c' (e.flatMap (gI l b))):=by
 refine ΦK 2 (aj [] [(11,nf),(12,[2,4,6,8,11,12,15,17,18,0])] [(3,[.slot 5 false [.row 59 241],ag 16]),(9,[.slot 5 false [.row 60 241],ag 10])]) (λ a=>C ZT 187 [S A n c,S B m d] H λ b e f g=>W ZG b (λ h=>h 0 [] 0 b) λ h i j k l o=>J (o<O f) (ΦX e o f (ΦE ZM j e (N o*1) (λ p q r=>let s:=[S A n c,S B m d,S p q r];C ZT 188 s j λ t u v w=>J (O v<2) (ΦR (o+1)/\h k l (o+1) t/\i k l (o+1)<i k l o) (C ZT 189 s t (λ x y z a0=>W ZG x (λ a1=>a1 k l 1 x) λ a1 a2 a3 a4 a5 a6=>J (a6<O v) (ΦR (a6-1)/\ΦX u (a6-1) v (ΦE ZE a3 u (N (a6-1)*2+1) (λ a7=>ΦX u a6 v (ΦE ZE a3 u (N a6*2+0) (λ a8=>C ZT 190 [S y z a0,ΦG [I a7,I a8]] a3 λ a9 b0 b1 b2=>(a4+1)*40<=M/\ΦR (a6+1)/\let b3:=a5++[Value.int .i64 a7,I a8,S b0 b1 b2];a1 (a4+1) b3 (a6+1) a9/\a2 (a4+1) b3 (a6+1)<a2 a4 a5 a6))))) (ΦR (o+1)/\h a4 a5 (o+1) a3/\i a4 a5 (o+1)<i k l o)))))) (U j l k (λ p q r=>a p k q r))) ?_;dsimp only[PL,aQ,aR,aW,eQ,C,ΦE,M,N,ΦR,W,ΦX,O,J];have hl:=Z.len;refine⟨_,rH hT Z ht hb hf,?_⟩;rintro H1 l1 A3 n4 c5 ⟨e,x,c3,Q,G⟩;have c7:=x.len;refine⟨λ k xs i P=>0<=i/\i<=n4/\Row P xs ((e.take i.toNat).flatMap (gI l b))/\k=((e.take i.toNat).flatMap (gI l b)).length/\k<=i.toNat*1700,λ _ _ i=>n4-i.toNat,y' ⟨rfl,rfl,by omega⟩,?_⟩;rintro H9 l9 k xs i ⟨i0,i1,X,z,b2⟩;refine ΦD (λ y=>?_) λ c2=>?_
 .obtain⟨a2,hA,_,hc,⟨A9,n9,c9,rfl,q1⟩⟩:=x.at l9 i0 y;have e1:(i+1).toNat=i.toNat+1:=by omega
  have o:(e.take (i+1).toNat).flatMap (gI l b)=(e.take i.toNat).flatMap (gI l b)++gI l b e[i.toNat]:=by
   rw[e1,aaj a2,abo];simp
  have a7:=CM l b e[i.toNat];have Y:=Aj l b e[i.toNat];have V:=lq l b e[i.toNat];generalize e[i.toNat]=v at q1 o a7 Y V;have q:=aa l1 l9;refine⟨hA,i0,y,_,_,_,hc,_,sV (Z.mono q) (ht.mono q) q1 hb,?_⟩;intro b0 h b8 u d0 hp;have a6:=hp.len;have D:gI l b v=iV (bb l b v) (HB l b v):=rfl;refine⟨λ h2=>?_,λ h2=>?_⟩
  .have h2:=aab h2;rw[QC (by omega)]at D;rw[D,aar]at o;exact u' ⟨y' ⟨by rw[o];exact X.mono h,by rw[o];exact z,by omega⟩,by dsimp only;omega⟩
  refine⟨_,xF (Z.mono (aa q h)) (ht.mono (aa q h)) (q1.mono h) hb,?_⟩;intro b7 R d1 c6 c0 hw;have a4:=hw.len;generalize bb l b v=a at hw D V a4;generalize HB l b v=cs at hp D a6 Y;generalize (e.take i.toNat).flatMap (gI l b)=O0 at X z o;subst z;refine⟨λ k2 E j P=>1<=j/\(j<=u\/j=1)/\∃w:List cT,Row P E (O0++w)/\k2=(O0++w).length/\w.length+1<=j.toNat/\gI l b v=w++iV a (cs.drop (j.toNat-1)),λ _ _ j=>u-j.toNat,
   (y' ⟨[],by simpa using(X.mono (aa h R)),P' (by simpa using D)⟩),?_⟩
  rintro b9 F k2 E j ⟨j0,j1,w,a1,rfl,b3,he⟩;have a3:ae .i64 (j+1):=by omega
  refine ΦD (λ L=>?_) λ b1=>?_
  .have hj:j.toNat<cs.length:=by omega
   have p:=aa R F;obtain⟨_,hB,_,hd,⟨rfl,r1,r2⟩⟩:=hp.at p (i:=j-1) (by omega) (by omega);obtain⟨_,a0,_,r,⟨rfl,r3,r4⟩⟩:=hp.at p (i:=j) (by omega) L;have e2:(j-1).toNat=j.toNat-1:=by simp
   simp[e2]at r1 r2 hd;rw[LD (by omega) hj]at he;have hd:=hd.cy (k:=1) rfl;have r:=r.cy (k:=0) rfl;generalize cs[j.toNat-1].hi=f at*;generalize cs[j.toNat].lo=t at*;refine u' ⟨hB,y' ⟨_,by rw[e2];omega,a0,by omega,L,_,r,_,uv (g:=⟨f,t⟩) (hw.mono F) (by omega),?_⟩⟩;intro c8 a8 c1 b5 b4 s;have b6:(O0++w).length<=4000000:=by
    grind
   refine u' ⟨a3,y' ⟨w++[HC a ⟨f,t⟩],?_,U' ?_⟩,by grind⟩
   .rw[<-aat];exact(a1.mono a8).append (Row.one ⟨_,_,_,rfl,r2,r3,s⟩)
   .rw[he,show(j+1).toNat-1=j.toNat from by omega];simp
  .rw[HD (by omega) (by omega)]at he;refine u' ⟨y' (U' ?_),by grind⟩;grind
 .rw[aag (by omega)]at X z;intro A4 c4 H4 l4 a5 T;exact⟨e,Q,G,X.sl l4 a5 z.symm T (by show k*40<=_;omega) (by omega)⟩
section
variable {a:Int}
def af.post {P:Program}{f:FuncId}{a:G'}{H:Heap}{p q:D'->Nat->Nat->Heap->Prop}(h:af P f a H fi p)(d:∀A n c b,p A n c b->q A n c b):af P f a H fi q:=by
 refine⟨h.1,λ w j=>(h.2 w j).mono ?_⟩;rintro e s ⟨v,b,k,rfl,⟨A,n,c,g,m,i,o,r⟩,l⟩;exact⟨v,b,k,rfl,⟨A,n,c,g,m,i,o,d _ _ _ _ r⟩,l⟩
structure Fit (l:List aO)(cols:I'):Prop where
 Bp:l.length<1700
 clen:cols.length*32<=140737488355328
 di:(aG l).length*8<=140737488355328
 keys:vP l cols
section
variable {H:Heap}{A B:D'}{n c m d:Nat}{l:List aO}{cols:I'}
def QJ (p:mr H)(k:Sl H A n c l)(i:Sl H B m d cols)(e:Fit l cols):
  ZB 122 [S A n c,S B m d] H fi (λ o f g j=>Sl j o f g (ya l cols)):=by
 have u:=k.len;have r:=i.len;have v:=e.Bp;have t:=e.clen;have h:=xG p k i (by omega) (by omega) e.di e.keys;refine h.post λ o f g j=>?_;rintro⟨q,a,b,s⟩;rw[iW a b]at s;exact s
def HR (k:Sl H A n c l)(i:Sl H B m d cols)(e:Fit l cols):
  ZB 114 [S A n c,S B m d] H fi (λ o f g j=>Sl j o f g (ya l cols)):=by
 have t:=k.len;have q:=i.len;have u:=e.Bp;have r:=e.clen;have h:=Ki k i (by omega) (by omega) e.di;refine h.post λ o f g j=>?_;rintro⟨p,a,b,s⟩;rw[iW a b]at s;exact s
def QK (o:Sl H A n c l)(j:Sl H B m d cols)(e:Fit l cols):
  ZB 65 [S A n c,S B m d] H fi (λ p f i k=>Sl k p f i (eJ l cols)):=by
 have t:=o.len;have q:=j.len;have u:=e.Bp;have r:=e.clen;have h:=oN o j (by omega) (by omega) e.di;refine h.post λ p f i k=>?_;rintro⟨g,a,b,s⟩;rw[Hw a b (lV l _) (fE l _)]at s;exact s
def HS (k:Sl H A n c l)(i:Sl H B m d cols)(e:Fit l cols):
  ZB 62 [S A n c,S B m d] H fi (λ o f g j=>Sl j o f g (eJ l cols)):=by
 have t:=k.len;have q:=i.len;have u:=e.Bp;have r:=e.clen;have h:=kf k i (by omega) (by omega) e.di;refine h.post λ o f g j=>?_;rintro⟨p,a,b,s⟩;rw[iW a b]at s;exact s
def pb (r:mr H)(i:Sl H A n c l)(g:Sl H B m d cols)(b:Fit l cols):
  ZB 67 [S A n c,Φi a,S B m d] H fi (λ u j s t=>Sl t u j s (qB l a cols)):=by
 refine ΦK 0 bE (λ b=>let e:=[S A n c,S B m d];J (a=1) (C ZT 122 e H (λ f g h i=>b g h i f)) (J (a=2) (C ZT 65 e H (λ f g h i=>b g h i f)) (b none 0 0 H))) ?_;dsimp only[aQ,aR,C,J];refine⟨λ f=>⟨_,QJ r i g b,λ o p k q v h=>?_⟩,λ f=>⟨λ e=>⟨_,QK i g b,λ o p k q v h=>?_⟩,λ e=>?_⟩⟩
 .rw[qB];grind
 .rw[qB];grind
 .rw[qB,if_neg (aac f),if_neg (aac e)];exact Sl.nil
def lr (i:Sl H A n c l)(g:Sl H B m d cols)(b:Fit l cols):
  ZB 64 [S A n c,Φi a,S B m d] H fi (λ t k r s=>Sl s t k r (qB l a cols)):=by
 refine ΦK 0 bE (λ b=>let e:=[S A n c,S B m d];J (a=1) (C ZT 114 e H (λ f g h i=>b g h i f)) (J (a=2) (C ZT 62 e H (λ f g h i=>b g h i f)) (b none 0 0 H))) ?_;dsimp only[aQ,aR,C,J];refine⟨λ f=>⟨_,HR i g b,λ o p j q u h=>?_⟩,λ f=>⟨λ e=>⟨_,HS i g b,λ o p j q u h=>?_⟩,λ e=>?_⟩⟩
 .rw[qB];grind
 .rw[qB];grind
 .rw[qB,if_neg (aac f),if_neg (aac e)];exact Sl.nil
def vQ (e:mr H)(g:Sl H A n c l)(f:Sl H B m d cols)(b:Fit l cols):
  ZB 25 [S A n c,Φi a,S B m d] H fg (λ r _=>r=decide ((qB l a cols).length=0)):=by
 refine ΦK 0 bE (λ b=>C ZT 67 [S A n c,I a,S B m d] H λ e f g h=>b (decide (O g=0)) e) ?_;dsimp only[aQ,aR,C,O];refine⟨_,pb e g f b,λ j o i p q h=>?_⟩;have k:=h.len;grind
end
def sW:∀(k u:Nat),u<10^(k+1)->(Lib.decDigits u).length<=k+1
 | 0,u,h=>by rw[Lib.decDigits,dif_pos (by omega)];simp
 | k+1,u,h=>by
  rw[Lib.decDigits];split
  .simp
  .rw[aae,aaU];have:=sW k (u/10) (by grind);omega
def Aw {n:Int}(h:ae .i64 n):(Lib.itoa n).length<=21:=by
 unfold Lib.itoa;split
 .have:=sW 19 n.natAbs (by grind);grind
 .have:=sW 19 n.natAbs (by grind);grind
def si (b:Nat)(v:az):Prop:=ae .i64 v.kind/\ae .i64 v.n/\v.s.size<=b
def EI {b:Nat}(e:b<=140737488355328){v:az}(h:si b v):(bU v).length<=66+b:=by
 have d:=Aw h.1;have a:=Aw h.2.1;have f:=Aw (n:=(v.s.size)) (by have:=h.2.2;omega);have c:=h.2.2;simp[bU,aav];omega
def uw {b:Nat}(a:b<=140737488355328):∀{vs:List az},(∀v∈vs,si b v)->(keyBytes vs).length<=vs.length*(66+b)
 |[],_=>by simp[keyBytes]
 | v::vs,h=>by
  have d:=EI a (h v (by simp));have c:=uw a (vs:=vs) λ x f=>h x (by grind);have e:(keyBytes (v::vs)).length=(bU v).length+(keyBytes vs).length:=by simp[keyBytes]
  rw[aav,abf];omega
def NX {b:Nat}{c:List az}(h:∀v∈c,si b v):si b (fJ c a):=by
 have z:si b gg:=⟨by decide,by decide,abi _⟩;unfold fJ;grind
def NY {l:List aO}{cols:I'}{b:Nat}(j:b<=1048576)(g:cols.length<=1048576)(h:∀t∈l,∀v∈t.vals,si b v):vP l cols:=by
 intro t e;have d:∀v∈aJ t.vals cols,si b v:=λ v c=>by
  obtain⟨i,-,rfl⟩:=aaO.1 c;exact NX (h t e)
 have a:=uw (by omega) d;have f:(aJ t.vals _).length=cols.length:=aaQ _;rw[f]at a;refine aax a (aax (Nat.mul_le_mul g (show 66+b<=1048642 by omega)) (by simp))
end
end Go.Vc
namespace Go.Vc
open Go
section
variable {a:List aO}{b:Int}
def tg (S A:List aO)(d:Int):Option (I'):=if(S.filter (jV d)).length=0 then none else if(A.filter (jV d)).length=0 then some (canon (aG (S.filter (jV d))))else none
def EJ {S A:List aO}:∀{ps qs:I'},(qs++ps).Pairwise (λ x y=>x<y)->(∀x∈S++A,x.p.lo∈qs++ps/\x.p.hi∈qs++ps)->HO (tg S A) ps
 |[],_,_,_=>trivial
 |[_],_,_,_=>trivial
 | f::t::ps,qs,hp,hm=>by
  have a:∀y∈qs++f::t::ps,y<=f\/t<=y:=by
   intro y c;obtain⟨-,j,i⟩:=aaW.1 hp;obtain⟨l,h⟩:=aaz.1 j;obtain⟨m,-⟩:=aaz.1 h;rcases aam.1 c with c | c
   .have:=i y c f (by simp);omega
   grind
  refine⟨λ d g e=>?_,EJ (ps:=t::ps) (qs:=qs++[f]) (by grind) (by grind)⟩;have k:S.filter _=S.filter _:=CQ (ps:=[]) (λ x b=> .inl (by simp)) (λ x b=>a _ (hm x (by grind)).1) (λ x b=>a _ (hm x (by grind)).2) g e;have n:A.filter _=A.filter _:=CQ (ps:=[]) (λ x b=> .inl (by simp)) (λ x b=>a _ (hm x (by grind)).1) (λ x b=>a _ (hm x (by grind)).2) g e;unfold tg;grind
def vR (b:∀x∈a,dm x.p=true){x:aO}(c:x∈a):x.p.lo∈canon (bS a)/\x.p.hi∈canon (bS a):=by
 rw[fD,fD];unfold bS;grind
def yb {A:List aO}{x:I'}:tg a A b=some x↔(∃y∈a,jV b y=true)/\(¬∃y∈A,jV b y=true)/\canon (aG (a.filter (jV b)))=x:=by
 unfold tg;simp
def xH (S A:List aO):List cT:=oZ (tg S A) (canon (bS (S++A))) []
def QL {A:List aO}(e:∀x∈a,dm x.p=true)(f:∀x∈A,dm x.p=true){y:aO}(i:y∈a)(h:jV b y=true):Ov (canon (bS (a++A))) b:=by
 have c:=λ x g=>(aam.1 g).elim (e x) (f x);have:=vR c (x:=y) (by grind);have h:=(aY.1 h).2;exact Kl h.1 h.2 (fC _) this.1 this.2
def QM {A:List aO}(k:∀x∈a,dm x.p=true)(i:∀x∈A,dm x.p=true):fa (xH a A)/\∀d x,gp (xH a A) d x↔tg a A d=some x:=by
 have j:=λ x g=>(aam.1 g).elim (k x) (i x);have b:=EJ (qs:=[]) (fC _) λ x g=>vR j g;obtain⟨m,n⟩:=Av (F:=tg a A) (out:=[]) (fC _) b ⟨trivial,λ v j=>by grind⟩ (λ u f o=>by grind);refine⟨m,λ d x=>?_⟩;have e:gp [] d x↔False:=by simp[gp]
 rw[xH,n,e,false_or];refine⟨λ h=>h.2,λ h=>⟨?_,h⟩⟩;obtain⟨⟨y,l,c⟩,-⟩:=yb.1 h;exact QL k i l c
def pieces (s:cT)(b:List bc)(a:List cT):List cT:=(jY [s.p] b).foldl (λ o p=>cG o ⟨p,s.ids⟩) a
def iX:List cT->List bc->List cT->List cT
 | s::r,ms,out=>iX r ms (pieces s ms out)
 |[],_,out=>out
def HT {ids:I'}:∀{ps:List bc} {h:Int} {out:List cT},cI h ps=true->fa out->(∀u p,out.getLast?=some u->ps.head?=some p->u.p.hi<=p.lo)->
  fa (ps.foldl (λ o p=>cG o ⟨p,ids⟩) out)/\(∀u,(ps.foldl (λ o p=>cG o ⟨p,ids⟩) out).getLast?=some u->(∃p∈ps,u.p.hi=p.hi)\/out.getLast?=some u)/\
   ∀d x,gp (ps.foldl (λ o p=>cG o ⟨p,ids⟩) out) d x↔gp out d x\/(aP ps d=true/\ids=x)
 |[],h,out,_,hn,_=>⟨hn,λ u a=> .inr a,λ d x=>by simp[aP]⟩
 | p::ps,h,out,hp,hn,hl=>by
  obtain⟨e,w,f⟩:=aM.1 hp;obtain⟨j,l,q⟩:=CP (v:=⟨p,ids⟩) hn e.2.1 (λ u a=>hl u p a rfl);obtain⟨m,t,s⟩:=HT (ids:=ids) (out:=cG _ _) f j (λ u r a g=>by
   have i:=l u a;have i:u.p.hi=p.hi:=i;rcases ps with _ |⟨n,ps⟩
   .grind
   .simp at g;subst g;have:=(aM.1 f).2.1;omega)
  refine⟨m,λ u a=>?_,λ d x=>?_⟩
  .grind
  .rw[aH];have k:(Ud ⟨p,ids⟩ d/\ids=x)↔(uO p d=true/\ids=x):=by
    rw[aY];constructor
    .rintro⟨b,c⟩;exact⟨⟨e,b.1,b.2⟩,c⟩
    .rintro⟨⟨-,b⟩,c⟩;exact⟨⟨b.1,b.2⟩,c⟩
   grind
def QN {a:bc}{ms:List bc}:∀p∈jY [a] ms,a.lo<=p.lo/\p.hi<=a.hi:=by
 intro p c;obtain⟨q,f,d⟩:=aaZ.1 c;have b:q=a:=by
  have e:norm [a]=if dm a then[a]else[]:=by
   rfl
  grind
 subst b;obtain⟨r,g,rfl⟩:=aaO.1 d;simp[gh];omega
def Ax {ms:List bc}:∀{segs:List cT} {out:List cT} {h:Int},segs.Pairwise (λ a b=>a.p.hi<=b.p.lo)->fa out->(∀u s,out.getLast?=some u->segs.head?=some s->u.p.hi<=s.p.lo)->(∀s∈segs,s.p.lo<s.p.hi)->
  fa (iX segs ms out)/\∀d x,gp (iX segs ms out) d x↔gp out d x\/∃s∈segs,aP (jY [s.p] ms) d=true/\s.ids=x
 |[],out,_,_,hn,_,_=>⟨hn,λ d x=>by simp[iX]⟩
 | s::r,out,h,hp,hn,hl,hpos=>by
  obtain⟨y,l⟩:=aaz.1 hp;have f:=Ch [s.p] ms;have i:=QN (a:=s.p) (ms:=ms);obtain⟨o,t,w⟩:=HT (ids:=s.ids) (ps:=jY _ _) (h:= -1) (out:=out) f hn (λ u p c g=>by
   have:=hl u s c rfl;have:=(i p (List.mem_of_mem_head? g)).1;omega)
  obtain⟨k,n⟩:=Ax (ms:=ms) (segs:=r) (out:=pieces s _ _) (h:=h) l o (λ u q c j=>by
   have v:=List.mem_of_mem_head? j;rcases t u c with⟨p,m,e⟩ | c
   .grind
   grind) (λ q j=>hpos q (by grind))
  refine⟨k,λ d x=>?_⟩;rw[iX,n];unfold pieces;grind
def HU {F:Int->Option (I')}:∀{c:I'},c.Pairwise (λ x y=>x<y)->(iz F c).Pairwise (λ a b=>a.p.hi<=b.p.lo)/\∀s∈iz F c,s.p.lo<s.p.hi/\s.p.lo∈c/\s.p.hi∈c
 |[],_=>⟨List.Pairwise.nil,λ s d=>by cases d⟩
 |[_],_=>⟨List.Pairwise.nil,λ s d=>by cases d⟩
 | f::t::c,hp=>by
  obtain⟨j,g⟩:=aaz.1 hp;obtain⟨h,i⟩:=HU (F:=F) g;rw[iz];split
  .refine⟨aaz.2 ⟨λ s d=>?_,h⟩,λ s d=>?_⟩
   .have e:=(i s d).2.1;rcases aaw.1 e with e | e
    .grind
    .have:=(aaz.1 g).1 _ e;grind
   grind
  grind
def EL:aP (a.map (·.p)) b=true↔∃y∈a,jV b y=true:=by
 unfold aP;rw[List.any_map,abD];rfl
def QO {A:List aO}{ms:List bc}(C:∀x∈a,dm x.p=true)(H:∀x∈A,dm x.p=true)(l:∀d,aP ms d=(aP (a.map (·.p)) d&& !aP (A.map (·.p)) d)):
  iX (iz (tg a []) (canon (bS a))) ms []=xH a A:=by
 obtain⟨E,N⟩:=QM C H;obtain⟨L,D⟩:=HU (F:=tg a []) (fC (bS a));have r:HO (tg a []) (canon _):=EJ (qs:=[]) (fC _) λ x M=>vR C (by grind);have m:=λ d x=>HQ (d:=d) (x:=x) r;obtain⟨J,I⟩:=Ax (ms:=ms) (segs:=iz _ _) (out:=[]) (h:=0) L ⟨trivial,λ v U=>by grind⟩ (λ u s R=>by grind) (λ s g=>(D s g).1);refine CO J E λ d x=>?_;have e:gp [] d x↔False:=by simp[gp]
 rw[I,N,e,false_or];have w:∀s∈iz (tg a []) (canon (bS a)),dm s.p=true:=by
  intro s g;obtain⟨t,i,j⟩:=D s g;rw[fD]at i j;obtain⟨y,q,i⟩:=aaZ.1 i;obtain⟨z,K,j⟩:=aaZ.1 j;have P:=fo.1 (abc.1 q).2;have T:=fo.1 (abc.1 K).2;simp at i j;rw[fo];omega
 have k:∀s∈iz (tg a []) (canon (bS a)),(aP [s.p] d=true↔Ud s d):=by
  intro s g;rw[aH,fp,ade,aY];have:=fo.1 (w s g);exact⟨λ h=>h.2,λ h=>⟨this,h⟩⟩
 rw[yb];constructor
 .rintro⟨s,g,t,i⟩;rw[zg,aah,k s g,l,aah]at t;obtain⟨j,Q,G⟩:=t;obtain⟨-,B⟩:=(m d x).1 ⟨s,g,j,i⟩;obtain⟨f,-,b⟩:=yb.1 B;refine⟨f,λ O=>?_,b⟩;rw[EL.2 O]at G;grind
 .rintro⟨f,b,c⟩;have B:tg a [] d=some x:=yb.2 ⟨f,N' c⟩;obtain⟨y,q,o⟩:=f;have n:=QL (A:=[]) C (λ x M=>by grind) q o;rw[aar]at n;obtain⟨s,g,j,i⟩:=(m d x).2 ⟨n,B⟩;refine⟨s,g,?_,i⟩;rw[zg,aah,k s g,l,aah];refine⟨j,EL.2 ⟨y,q,o⟩,?_⟩;rcases h:aP _ d with _ | _
  .simp
  .exact absurd (EL.1 h) b
end
end Go.Vc
