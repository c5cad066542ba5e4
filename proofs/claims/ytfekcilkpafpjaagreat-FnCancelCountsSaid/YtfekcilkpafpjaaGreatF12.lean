/- A part. -/
import Derived.Test.YtfekcilkpafpjaaGreatF10
import Derived.Test.YtfekcilkpafpjaaGreatF11
open Array renaming size->x
open Go renaming Calls->aQ
open Go.Calls renaming mono->ab
open Go.Ending renaming returned->bd
open Go.IntKind renaming i64->B
open Go.Obj renaming cells->au
open Go.Value renaming int->C,slice->q,agg->aO
open Go.World renaming cell?->ax,alloc->aX
open Int renaming toNat->bF
open List renaming length->j,range->aR,getD->aU
open Option renaming none->G,some->H
open Or renaming inl->aN,inr->bk
namespace Go.Proofs.YtfekcilkpafpjaaGreat
open Go.RowKit
open Tryz renaming prog->aK
open Tryz
set_option maxRecDepth 100000
set_option maxHeartbeats 25600000
set_option linter.all false
variable{O:aH}
section
attribute [local go_sem↓]Go.wp_at_zero Go.wp_at_succ
def nI(c:aH)(b:List dB):Prop:=j b=j c.ag/\∀a∈b,∃b∈c.ag,a.aC=b.aC/\j a.aG<=1000/\a.bs=b.bs/\a.aD=b.aD
theorem nI.hf{dk:List dB}(b7:nI O dk)(po:sN O):sN ⟨O.ai,dk⟩:=by
 have c:∀a,(dg ⟨O.ai,dk⟩ a).aC.length<=1000000:=λb=>by rcases dE b (j dk)with a|a;(.rw[p2 (a)];obtain⟨d,e,f,_⟩:=b7.2 _ (dM a);show dk[b].aC.length<=_;rw[f];have:=po.hf d e;omega);.simp[dg,a]
 refine⟨⟨po.i9.bA,po.i9.d3,po.i9.zH,Ux,c⟩,po.mL,po.lu,Ux,?_,?_,?_,?_,?_⟩;.intro a b;obtain⟨c,d,e,f,f,f⟩:=b7.2 a b;rw[e];exact po.hf c d
 .intro a b;obtain⟨d,d,d,c,d,d⟩:=b7.2 a b;exact c
 .intro a b;obtain⟨c,d,f,f,f,e⟩:=b7.2 a b;rw[e];exact po.hq c d
 .intro a b;obtain⟨c,d,e,g,g,f⟩:=b7.2 a b;rw[e,f];exact po.ct c d
 .intro a b;obtain⟨c,d,e,g,g,f⟩:=b7.2 a b;show h8 O.ai (j dk) (j a.aC) a.aD;rw[e,f,b7.1];exact po.cD c d
def nI.trans{a b:List dB}(c:nI O a)(d:nI ⟨O.ai,a⟩ b):nI O b:=by
 refine⟨by rw[d.1];exact c.1,λa b=>?_⟩;obtain⟨e,f,g,h,i,j⟩:=d.2 a b;obtain⟨a,b,d,m,k,l⟩:=c.2 e f;exact⟨a,b,by rw[g,d],h,by rw[i,k],by rw[j,l]⟩
def Uy(Q:sN O)(e:az)(f:Nat)(i:az)(k:Nat)(b:a5)(ae:cr [] b O e f i k):aQ aK 103 #[aO #[q e (j O.ai) f,q i (j O.ag) k]] b (vY b O.ai (j O.ag) (λJ=>∃R∈O.ag,J.aC=R.aC/\j J.aG<=1000/\J.bs=R.bs/\J.aD=R.aD)):=by
 obtain⟨aD,l⟩:=aq ae Q;have af:=Q.nr;clear ae Q;go_enter func103,ntmps103;go_upto_region 0 with fail;go_cut [1,2](λaE aG wx=>aE=d0 b 0/\aG=e7 b 1 0/\dq b wx #[a1 e O.ai f,a1 i O.ag k] #[q G 0 0,q G 0 0] 26 26);. exact fr
 obtain⟨rfl,rfl,cb:ak _⟩:=hcut;obtain⟨a,rfl⟩:=bX wc;have aJ:=A cb.a9;(have bd:x b.heap+2<=x a.heap:=jV);obtain⟨⟨e0,dD⟩,_⟩:=b8 cb.d5;obtain⟨c,d⟩:=bX ((x b.heap+1)::aR (x b.heap));obtain⟨gL,K,r⟩:=bb d (λbg bi=>a4:∀ag,ag∈c->ag<x a.heap) (aD.h.I cb.a9);clear d;go_upto_region 1 with fail;go_cut [3](λaM wx=>∃(L:Nat)(S:List dB)(ah:az)(ai:Nat)(al:az)(am:Nat),aM=f3 L 0/\nI O S/\F [] a wx/\wx.heap[L]?=H (au #[a1 ah O.ai ai,a1 al S am] 26 (0,0))/\cr (L::c) wx ⟨O.ai,S⟩ ah ai al am/\x a.heap<=L);.go_wp2_with fail;refine d2 (λU=>bh U b 0 (a1 e O.ai f)/\bh U b 1 (a1 i O.ag k)) (by(try dsimp only);(have d:=(F.refl [] a).drew;exact⟨d.a3 e0,d.a3 dD⟩)) λV=>?_;refine a2 0 7 ?_;refine a2 1 8 ?_;refine GA (rs:=[2,4]) cB a8 ?_;refine(yU u (λM p=>?_)<|yU u (λM p=>?_) pt);(.go_simp;go_at_call 136;refine ab (Ln l.h.hq l.h.hf e f i k _ af<|r.h.I (F.refl [] a).drew) ?_;rintro aA d⟨I,W:ak _,X,aB,rfl,o,n⟩;obtain⟨Y,Z,a3⟩:=n.cq;rw[yf]at a3;subst a3;obtain⟨oq,a6⟩:=aq ((F.refl [] a).drew.aa o) n.br;have aC:=oq.h.size;clear o n;go_simp;refine aV p a2o λa7=>?_;clear p M V;refine GA (rs:=[3,4]) cB a8 ?_;refine(yU u (λN s=>?_)<|yU u (λN s=>?_) pt);(.go_simp;go_at_call 135;refine ab (AF l.h e f i k _ (r.h.I oq.h) (a1 Y I Z) I W.h X a6.h) ?_;rintro ao n⟨o,T,a9,t,z,D,E,rfl,an,P⟩;have hr:=A<|oq.h.aa an;have ao:=hr.h.size;have ap:=A (⟨T,a9⟩:nI O o);clear T a9;have ar:=A ((λT a9=>⟨(P.d.all (a0:=c) T).sub a9,(P.r.all (a0:=c) T).sub a9⟩) (λT a9=>by have av:=K.h T a9;omega) a4:cr (x n.heap::c) n ⟨O.ai,o⟩ t z D E);have T:=Ay n (au #[q G 0 0,q G 0 0] 26) u;obtain⟨⟨a9,a9⟩,a9,a9⟩:=b8 T;clear an P;go_simp;refine aV s Lq λa9=>?_;clear s N a7;refine ba 4 λan P=>?_;go_simp;refine aV P (by(try dsimp only);(have T:=(hr.h.alloc<|au #[q G 0 0,q G 0 0] 26);exact⟨T.a3 e0,T.a3 dD⟩)) λav=>?_;clear P an a9;refine ba 5 λa9 P=>?_;go_simp;refine aV P (by(try dsimp only);(have T:=hr.h.alloc<|au #[a1 t O.ai z,a1 D o E] 26;exact⟨T.a3 e0,T.a3 dD⟩)) λT=>?_;clear P a9 av;refine cG ?_;clear T;go_wp2_with fail;go_meet;exact⟨x n.heap,o,t,z,D,E,u,ap.h,hr.h.alloc<|au #[a1 t O.ai z,a1 D o E] 26,Ay n _ u,ar.h.I<|(F.refl [] n).alloc<|au #[a1 t O.ai z,a1 D o E] 26,ao⟩);.go_simp;refine aV s (by(try dsimp only);(have n:=(oq.h.alloc<|au #[q G 0 0,q G 0 0] 26);exact⟨n.a3 e0,n.a3 dD⟩)) λap=>?_;clear s N a7;refine ba 3 λar a9=>?_;go_simp;go_at_call 135;refine ab (AF l.h e f i k _ (r.h.I<|oq.h.alloc<|au #[q G 0 0,q G 0 0] 26) (a1 Y I Z) I W.h X<|a6.h.I<|(F.refl [] d).alloc<|au #[q G 0 0,q G 0 0] 26) ?_;rintro aP E⟨n,an,ao,o,t,z,D,rfl,P,T⟩;obtain⟨hr,av⟩:=aq ((oq.h.alloc<|au #[q G 0 0,q G 0 0] 26).aa P) (⟨an,ao⟩:nI O n);clear an ao;have an:=A ((λao=>⟨T.d.all ao,T.r.all ao⟩) (λaw ax=>by rcases eu.1 ax with rfl|ay;(.exact(a8:x d.heap<(aX d<|au #[q G 0 0,q G 0 0] 26).heap.size));.have s:=K.h aw ay;have s:=((oq.h.alloc<|au #[q G 0 0,q G 0 0] 26)).size;omega):cr (x d.heap::c) E ⟨O.ai,n⟩ o t z D);have I:=(P.block (x d.heap) a8 a8).trans<|Ay _ _ a8;obtain⟨⟨s,s⟩,s,s⟩:=b8 I;clear P T;go_simp;refine aV a9 Lq λP=>?_;clear a9 ar ap;refine ba 5 λT s=>?_;go_simp;refine aV s (by(try dsimp only);(have N:=hr.h.trans (F.es E (x d.heap) (a1 o O.ai t)<|a1 z n D) (λW bw=>bk qY);exact⟨N.a3 e0,N.a3 dD⟩)) λN=>?_;clear s T P;refine cG ?_;clear N;go_wp2_with fail;go_meet;have s:=F.es E (x d.heap) (a1 o O.ai t)<|a1 z n D;exact⟨x d.heap,n,o,t,z,D,u,av.h,hr.h.trans s a4,r2 I,⟨an.h.d.a9 s a4,an.h.r.a9 s a4⟩,m⟩);.go_simp;refine aV p (by(try dsimp only);(have d:=((F.refl [] a).drew.alloc<|au #[q G 0 0,q G 0 0] 26);exact⟨d.a3 e0,d.a3 dD⟩)) λt=>?_;clear p M V;refine ba 2 λz o=>?_;go_simp;go_at_call 136;refine ab (Ln l.h.hq l.h.hf e f i k _ af<|r.h.I<|(F.refl [] a).drew.alloc<|au #[q G 0 0,q G 0 0] 26) ?_;rintro ay Y⟨I,s,Z,aA,rfl,d,n⟩;obtain⟨a3,a6,N⟩:=n.cq;rw[yf]at N;subst N;obtain⟨oq,a7,a9⟩:=bb (((F.refl [] a).drew.alloc<|au #[q G 0 0,q G 0 0] 26).aa d) n.br s;have aB:=oq.h.size;have an:=(d.block (x a.heap) a8 a8).trans<|Ay _ _ a8;have P:x a.heap<x Y.heap:=ft a8 d.size;clear d n s;go_simp;refine aV o a2o λao=>?_;clear o z t;refine ba 3 λap T=>?_;go_simp;go_at_call 135;refine ab (AF l.h e f i k _ (r.h.I oq.h) (a1 a3 I a6) I a9.h Z a7.h) ?_;rintro aC z⟨d,W,X,n,o,s,t,rfl,D,E⟩;obtain⟨hr,ar⟩:=aq (oq.h.aa D) (⟨W,X⟩:nI O d);clear W X;have W:=A ((λX=>⟨E.d.all X,E.r.all X⟩) (λav aw=>by rcases eu.1 aw with rfl|ax;(.exact P);.have p:=K.h av ax;omega):cr (x a.heap::c) z ⟨O.ai,d⟩ n o s t);have I:=(D.block (x a.heap) P a8).trans an;obtain⟨⟨p,p⟩,p,p⟩:=b8 I;clear D E;go_simp;refine aV T Lq λE=>?_;clear T ap ao;refine ba 5 λM p=>?_;go_simp;refine aV p (by(try dsimp only);(have D:=hr.h.trans (F.es z (x a.heap) (a1 n O.ai o)<|a1 s d t) (λN bw=>bk qY);exact⟨D.a3 e0,D.a3 dD⟩)) λD=>?_;clear p M E;refine cG ?_;clear D;go_wp2_with fail;go_meet;have p:=F.es z (x a.heap) (a1 n O.ai o)<|a1 s d t;exact⟨x a.heap,d,n,o,s,t,u,ar.h,hr.h.trans p a4,r2 I,⟨W.h.d.a9 p a4,W.h.r.a9 p a4⟩,m⟩
 obtain⟨o,bj,bl,bm,bn,bo,rfl,p,d,n,s,bp⟩:=hcut;obtain⟨an,rfl⟩:=bX wc;have aP:=(f4.1 n).1;have aT:=A (λaU aW=>by rcases eu.1 aW with rfl|t;(.exact aP);.have:=K.h aU t;have:=d.size;omega:∀ao,ao∈o::c->ao<x an.heap);go_wp2;go_loopw [4](λaY wr=>∃(ap:Nat)(T:List dB)(ar:az)(av:Nat)(aw:az)(ax:Nat),ap<=13/\aY=C B ap/\nI O T/\F [] a wr/\x an.heap<=x wr.heap/\wr.heap[o]?=H (au #[a1 ar O.ai av,a1 aw T ax] 26 (0,0))/\cr (o::c) wr ⟨O.ai,T⟩ ar av aw ax)(λaZ _=>13 -(intOf aZ).toNat);.grind
 clear p d n s;obtain⟨M,d,s,t,z,D,bs,rfl,n,I,bt,E,W⟩:=hrel;obtain⟨p,rfl⟩:∃a':a5,a'=wr:=⟨_,u⟩;obtain⟨U,V,N,b0,P⟩:=eV n I W E (n.hf l.h);(have bx:j d<=1000000:=by have:=n.1;omega);obtain⟨⟨b1,b2⟩,bz,bA⟩:=b8 E;clear n W E I;by_cases bB:M<13;(. (have bC:(M:Int)<=12:=m);go_wp2;go_loopw [5,6](λb3 b4 wr=>∃(W:Nat)(X:List ad),W<=j d/\b4=C B W/\j X=W/\(∀b5∈X,j b5<=1000)/\aS [] (x p.heap) wr 34 1 b3 (lw X)/\F [] p wr)(λ_ b6 _=>j d -(intOf b6).toNat);(.exact⟨0,[],gr _,u,u,a8,aS.made [] (x p.heap) p _ _ (zo _) eP,aj.alloc _⟩);obtain⟨n,Y,bD,rfl,Z,a9,a3,E⟩:=hrel;obtain⟨wx,rfl⟩:=bX wr;obtain⟨bU,I,um,ay⟩:=cd a3 E Z a9;have bE:=E.size;obtain⟨a6,a7,aA⟩:=a3.cq;rw[yf,Z]at aA;subst aA;have bF:=E.a3 b1;have bG:=E.a3 b2;clear a3 E Z a9;by_cases E:n<j d;(.have b9:=A<|Ur ⟨O.ai,d⟩ s t z D n wx E (N.h.none.I I.h) (cA (P.h.hq _<|dM E) m) ⟨_,P.h.cD _<|dM E⟩ 1000 (P.h.iv _<|dM E) m;go_wp2_with(first|(go_at_call 137;refine ab b9.h ?_;rintro bI bJ⟨aB,bK,bL,rfl,a3,a9⟩;obtain⟨bM,bN,aC⟩:=a9.cq;rw[cN]at aC;subst aC;have Z:=A a3;have E:=a3.size;have bc:=A<|(a9.new1 (bv:=aF (.slice a6 n a7)++[]) (λg E=>Uu)).br;clear a3 a9)|(at_builtin;refine g2 u _ _ _ u [] (x p.heap) 34 (q G 0 0) 1 24 Gl ER u bf (q a6 n a7) (lw Y) (bU.h.I Z.h) n Lo _ [aI aB] u ⟨bc.h,bu⟩ eP m m m u u u ?_;intro E E E E;have w3:=A E;clear E));go_roundw;(.exact⟨n+1,Y++[aB],m,be,by simp[um.h],λW X=>by rcases cK.1 X with E|E;(.exact ay.h W E);.simp_all,Lp,w3.h.bm (bU.h.I Z.h)<|I.h.aa Z.h⟩);simp[intOf];omega);. (have E:n=j d:=m);have a9:=A<|(I.h.block o m a8).trans b0.h;obtain⟨_,W,W⟩:=b8 a9.h;have W:=A<|AF P.h s t z D wx (N.h.none.I I.h) (q a6 n a7) Y (by rw[um.h];exact E) ay.h bU.h.br;clear E;go_wp2_with(go_at_call 135;refine ab W.h ?_;rintro aA a6⟨n,a7,ay,W,X,Y,Z,rfl,E,a3⟩;have b3:=A E;have aA:=E.size;obtain⟨aA,b4,aB⟩:=bb ((λaC=>⟨a3.d.all aC,a3.r.all aC⟩) (λaC b5=>by have:=aT.h aC b5;omega):cr (o::c) a6 ⟨O.ai,n⟩ W X Y Z) (⟨a7,ay⟩:nI ⟨O.ai,d⟩ n) ((E.block o m a8).trans a9.h);obtain⟨⟨a9,a9⟩,a9,a9⟩:=b8 aB.h;clear E a3 a7 ay);have E:=A<|F.es a6 o (a1 W O.ai X)<|a1 Y n Z;go_roundw;(.exact⟨M+1,n,W,X,Y,Z,m,be,U.h.trans b4.h,((V.h.aa I.h).aa b3.h).trans E.h bq,cA m E.h.size,r2 aB.h,⟨aA.h.d.a9 E.h bq,aA.h.r.a9 E.h bq⟩⟩);exact fi);. (obtain rfl:M=13:=m);obtain⟨⟨c,e⟩,a,a⟩:=b8 ((V.h.block (x b.heap+1) m a8).trans cb.h.cz);go_wp2;have a:=F.es p (x b.heap+1) (a1 s O.ai t)<|a1 z d D;refine tM (v:= .agg #[a1 s O.ai t,a1 z d D]) (by simp[results,Tryz.results103,go_sem,c,e]) u ⟨d,U.h.1,U.h.2,s,t,z,D,u,?_,?_,?_⟩;(.exact(aJ.h.aa V.h).trans a bq);(.exact(N.h.d.a9 a λb bw=>aN oj).sub λb aL=>aN Wu);.exact(N.h.r.a9 a λa bw=>aN oj).sub λa aL=>aN Wu
end
structure eQ(n:aH)(b:cl)(bN:List cv)(aG:ad)(z:Nat):Prop where
 l:∃l,gm n l b bN/\jj n l aG z
 d3:∀a∈bN,j a.d3<=1000
 al:j bN+z<=1073741824
section
variable{n:aH}{b cz:cl}{bN:List cv}{aG:ad}{z xC:Nat}
theorem eQ.ae(c:eQ n b bN aG z):j b.ae=j b.b3:=by
 obtain⟨⟨d,a,_⟩,_,_⟩:=c;rw[<-a.jt,<-a.cD];exact a.o0
theorem eQ.bm(c:eQ n b bN aG z):j b.bm=j b.b3:=by
 obtain⟨⟨d,a,_⟩,_,_⟩:=c;rw[<-a.oJ,<-a.cD];exact a.lt
theorem eQ.lx(a:eQ n b bN aG z):j b.b3+1001*z<=1073741824:=by
 obtain⟨⟨e,c,d⟩,_,_⟩:=a;rw[<-c.cD];exact d.lx
theorem eQ.iv(a:eQ n b bN aG z):j aG<=1073741824:=by
 obtain⟨⟨d,d,c⟩,_,_⟩:=a;exact c.iv
theorem eQ.my(a:eQ n b bN aG z):dN b.ae 1000000000000:=by
 obtain⟨⟨e,c,d⟩,_,_⟩:=a;rw[<-c.jt];exact d.my
theorem eQ.arm(c:eQ n b bN aG z):∀a∈bN,0<=a.eD/\a.eD<a.aE/\a.aE+j a.d3<=j b.b3:=by
 obtain⟨⟨d,a,d⟩,_,_⟩:=c;rw[<-a.cD];exact a.arm
theorem eQ.jr(a:eQ n b bN aG z):dG n.ai b.b3=true:=by
 obtain⟨⟨e,c,d⟩,_,_⟩:=a;rw[<-c.cD];exact d.ix.jr
theorem eQ.less(a:eQ n b bN aG z)(c:xC<=z):eQ n b bN aG xC:=by
 obtain⟨⟨d,e,f⟩,g,h⟩:=a;exact⟨⟨d,e,f.less c⟩,g,m⟩
theorem eQ.step{a:b6}(g:e9 n=true)(q:∀r,j (bg n.ai r)<=1000)(h:eQ n b bN aG (c5 a+z))(d:0<=cW n b.b3 a)(i:js n aG bN b a=H cz):eQ n cz bN aG z/\cz.b3=if gk a.af then b.b3++[cW n b.b3 a]else b.b3:=by
 have k:=h.jr;obtain⟨⟨l,o,s⟩,t,v⟩:=h;rw[<-o.cD]at d k⊢;have c:=Cz g aG a l b bN o k d;cases e:i1 n aG l a with|none=>rw[e,i]at c;exact c.1.elim|some f=>rw[e,i]at c;have p:gm n f cz bN:=c.1;refine⟨⟨⟨f,p,s.step g q d e⟩,t,m⟩,?_⟩;rw[<-p.cD];exact c.2 f u
def eQ.Xs(l:e9 n=true)(o:∀a,j (bg n.ai a)<=1000)(h:eQ n b bN aG (z+1))(a d:Int)(p:0<=a)(i:a<j b.b3)(k:0<=d):eQ n ((bg n.ai d).foldl (λe f=>e.bind f 0) b) (bN++[⟨a,j b.b3,bg n.ai d⟩]) aG z:=by
 have e:=h.lx;obtain⟨⟨e,f,g⟩,q,q⟩:=h;have h:=f.gb a d p (by rw[f.cD];exact i) k;have h:=g.ix.gb l 8 [a] (c:=d) λ_=>⟨a4,by rw[f.cD];simpa using i,k⟩;have i:gT n e 8 [a] d=(bg n.ai d).foldl (λi k=>i.grow k 0 a) {e with cI:=e.cI.set (bF a) d,d9:=e.d9.set (bF a) (j e.ao)}:=by grind[gT]
 have i:=o d;refine⟨⟨gT n e 8 [a] d,a4,?_⟩,λi i=>?_,aB⟩;.obtain⟨k,i,l,o⟩:=g.aF;refine⟨h.1,⟨k,i,DD n e 8 [a] d l i,m⟩,?_,g.iv⟩;rw[h.2,dz u,eR,f.cD];omega
 .grind
end
def eQ.new(b:aH)(a:dB)(e:Nat)(q:dG b.ai a.aC=true)(r:j a.aC+1001*e<=1073741824)(h:j a.aG<=1073741824):eQ b (lH a) [] a.aG e:=by
 have c:=x6 b a;refine⟨⟨jP a,c.1,⟨_,_,c.1,a4⟩,⟨1,m,?_,m⟩,a4,h⟩,a8,aB⟩;rw[c.1.jt];have i:∀(k:aw)(f:cl),dN f.ae 1->dN (k.foldl (λl d=>l.bind (aU a.aC d 0)<|if aU a.aC d 0≠0/\dK a.aG d=false then 1 else 0) f).ae 1:=by intro n;induction n with|nil=>grind|cons s t o=>intro u p;refine o _<|p.app λv g=>?_;rw[kC]at g;subst g;split<;>omega
 exact i _ _ λn g=>by cases g
end Go.Proofs.YtfekcilkpafpjaaGreat
