/- A part. -/
import Derived.Test.YtfekcilkpafpjaaGreatF03
import Derived.Deep.DeepCutAuto
open Array renaming size->x
open Go renaming Calls->aQ
open Go.Calls renaming mono->ab
open Go.Ending renaming returned->bd
open Go.IntKind renaming i64->B
open Go.Obj renaming cells->au
open Go.Value renaming int->C,pointer->c8,slice->q,agg->aO
open Go.World renaming cell?->ax,drewN->g4,alloc->aX,setCell->bZ
open Int renaming toNat->bF
open List renaming length->j,range->aR,getD->aU
open Option renaming none->G,some->H
open Or renaming inl->aN,inr->bk
namespace Go.Proofs.YtfekcilkpafpjaaGreat
open Go.RowKit
open Tryz renaming prog->aK
open Tryz
set_option maxRecDepth 100000
set_option maxHeartbeats 25600000
set_option linter.all false
variable{M W:Int}{J Q V e:Nat}{P i:a5}{O:aH}{L Z:ad}{w:aw}{K S:ay}{R Y:az}{N:b2}{T:bJ}{X:bz}
def mf(b:a5)(a:Nat)(c d:ay):a5:=(bZ b (bl a 0) c).setCell (bl a 1) d
def F.es(a:a5)(b:Nat)(c d:ay):F [b] a (mf a b c d):=(aj.setCell (aN a8) _).setCell (aN a8) _
def r2{a b:ay}(c:i.heap[e]?=H (au #[K,S] T (0,0))):(mf i e a b).heap[e]?=H (au #[a,b] T (0,0)):=by simp[mf,World.setCell,D6,c]
def b8{y:a5}{b:Nat}(b7:y.heap[b]?=H (au #[K,S] T (0,0))):(ax y ⟨b,0,G⟩=H K/\ax y ⟨b,1,G⟩=H S)/\(y.frozen? ⟨b,0,G⟩=false/\y.frozen? ⟨b,1,G⟩=false):=by
 refine⟨⟨?_,?_⟩,?_,?_⟩;. exact xg
 . exact zp
 all_goals simp[World.frozen?,b7]
def oZ{y:a5}{b:Nat}{a c:ay}(b7:y.heap[b]?=H (au #[K,S,a,c] T (0,0))):(ax y ⟨b,0,G⟩=H K/\ax y ⟨b,1,G⟩=H S/\ax y ⟨b,2,G⟩=H a/\ax y ⟨b,3,G⟩=H c)/\(y.frozen? ⟨b,0,G⟩=false/\y.frozen? ⟨b,1,G⟩=false/\y.frozen? ⟨b,2,G⟩=false/\y.frozen? ⟨b,3,G⟩=false):=by
 refine⟨⟨?_,?_,?_,?_⟩,?_,?_,?_,?_⟩;. exact xg
 . exact zp
 . exact L8
 . exact SZ
 all_goals simp[World.frozen?,b7]
def fJ{a:Array ay}{av:Nat}{cQ:ay}(b:i.heap[e]?=H (au a T (0,0))):(bZ i (bl e av) cQ).heap[e]?=H (au (a.setIfInBounds av cQ) T (0,0)):=by simp[World.setCell,D6,b]
structure dq(y wx:a5)(gA b9:Array ay)(cU mC:bJ):Prop where
 a9:F [] y wx
 size:x wx.heap=x y.heap+2
 d5:wx.heap[x y.heap]?=H (au gA cU (0,0))
 cz:wx.heap[x y.heap+1]?=H (au b9 mC (0,0))
theorem dq.mk'(y:a5)(a b:Array ay)(c d:bJ):dq y ((aX y<|au a c).alloc<|au b d) a b c d:=⟨(aj.alloc _).alloc _,a8,by rw[pC _ _ _ a8];exact LC,by have:=BB (aX y<|au a c)<|au b d;exact z0⟩
structure mR(y wx:a5)(gA b9 jR:Array ay)(cU mC R3:bJ):Prop where
 a9:F [] y wx
 size:x wx.heap=x y.heap+3
 d5:wx.heap[x y.heap]?=H (au gA cU (0,0))
 cz:wx.heap[x y.heap+1]?=H (au b9 mC (0,0))
 ep:wx.heap[x y.heap+2]?=H (au jR R3 (0,0))
theorem mR.mk'(a:a5)(b c f:Array ay)(d e g:bJ):mR a (((aX a<|au b d).alloc<|au c e).alloc<|au f g) b c f d e g:=by
 have h:=dq.mk' a b c d e;refine⟨h.a9.alloc _,a8,?_,?_,?_⟩;.rw[pC _ _ _ aB];exact h.d5
 .rw[pC _ _ _ a8];exact h.cz
 .have:=BB ((aX a<|au b d).alloc<|au c e)<|au f g;rwa [H3,H3]at this
structure Pr(l:b2)(aE:List cJ):Prop where
 cS:dQ l
 ce:gV l (b4 aE)
 gy:∀f(b7:f<j aE),bI l (b4 aE) aE[f].bT.aC aE[f].aD aE[f].bT.bs/\d6 aE[f].aD<=30
section
attribute [local go_sem↓]Go.wp_at_zero Go.wp_at_succ
def dI{y:a5}{b:Nat}{a c d:ay}(b7:y.heap[b]?=H (au #[K,S,a,c,d] T (0,0))):ax y (bl b 0)=H K/\ax y ⟨b,1,G⟩=H S/\ax y ⟨b,2,G⟩=H a/\ax y ⟨b,3,G⟩=H c/\ax y ⟨b,4,G⟩=H d:=by
 refine⟨?_,?_,?_,?_,?_⟩;. exact xg
 . exact zp
 . exact L8
 . exact SZ
 .rw[ka y b 4 _ _ _ b7];rfl
def dq.keep'{wx:a5}{a b:Array ay}{c:bJ}(b7:dq i wx a b T c)(d:F [] wx P):P.heap[x i.heap]?=H (au a T (0,0))/\P.heap[x i.heap+1]?=H (au b c (0,0)):=⟨(d.block _ Da a8).trans b7.d5,(d.block _ Da a8).trans b7.cz⟩
def fe.trans{a:Ending}{b:a5}(c:fe P K a b)(d:F [] i P):fe i K a b:=⟨c.1,d.aa c.2⟩
structure cr(a0:aw)(y:a5)(n:aH)(bi:az)(bj:Nat)(pZ:az)(gX:Nat):Prop where
 d:a7 a0 y (dc n.ai) (q bi (j n.ai) bj)
 r:a7 a0 y (pK n.ag) (q pZ (j n.ag) gX)
theorem cr.I{y:a5}(a:cr w y O R e Y J)(b:F [] y i):cr w i O R e Y J:=⟨a.d.I b,a.r.I b⟩
structure fT(n:aH):Prop where
 bA:de n.ai (j n.ai)<=1073741824
 d3:∀c,j (bg n.ai c)<=1000
 zH:j n.ai<=1000000
 nr:j n.ag<=1000000
 hf:∀av,(dg n av).aC.length<=1000000
theorem p2(a:e<j O.ag):dg O e=O.ag[e]:=by simp[dg,a]
def mi{a:dy}(b:a7 w i (l9 a) K):j a<=9223372036854775807:=by grind[Cg]
theorem sn{a:bE}(b:a7 w i (dZ a) K):j a<=9223372036854775807:=by grind[oG]
def r4{a:List dB}(b:a7 w i (pK a) K):j a<=9223372036854775807:=by grind[OO]
def iq(a:a7 w i (aI L) K):j L<=9223372036854775807:=by grind[bB]
theorem Dw(a:a7 w i (dc N) K):j N<=9223372036854775807:=by grind[g9]
def tK(a:a7 w i (aI L) (q R e J)):j L<=J/\J<=9223372036854775807:=by grind[bB]
def Rd{a:bE}(f:e<j a)(b:Int):la (a.drop e) b=if b<1 then G else match lF a[e].a6 (b - 1)with|G=>G|H g=>la (a.drop<|e+1) g:=by
 rw[jK f,la];have:∀(c:b6)(d:Int),rZ c d=lF c.a6 d:=λh i=>by cases h;rw[rZ];rfl
 rw[this];rfl
def Re{a:dy}(c:e<j a)(b:Int):lF (a.drop e) b=match gR a[e] b with|G=>G|H b=>lF (a.drop<|e+1) b:=by
 rw[jK c,lF];rfl
def zI{a:ch}(b:gR a M=H W)(a:0<=M):0<=W/\W<=M:=by grind[CW]
def xx{a:ch}(b:e<j a.ap):c5 a.ap[e]<bC a:=by grind[nV,hY]
def xy{a:b6}(b:e<j a.a6):bC a.a6[e]<c5 a:=by grind[l7,h2]
def Rf(J:Nat):∀(M:aw)(s:ch),bC s<J->∀(K:ay)(k:Int)(t:a5),nX M t s K->0<=k->k<=1000000->aQ aK 119 #[K,ah k] t (fe t<|ah<|(gR s k).getD<|-1):=by induction J with|zero=>simp|succ au d=>intro N a av az b l O aA aB;have P:=A d;obtain⟨Q,R,rfl,c⟩:=O;have S:=A c;obtain⟨_,_,T,aC,aD⟩:=oG c;injection T with U e V;subst U V;clear d c e;have W:=A (by cases a;rw[gR];rfl:gR a b=la a.ap b);go_enter func119,ntmps119;go_upto_region 0 with fail;go_cut [2](λX wx=>X=d0 l 0/\F [] l wx/\x l.heap<x wx.heap/\ax wx (cM l 0)=H (a1 Q a.ap R));(. exact a21);obtain⟨rfl,c,aE,Y⟩:=hcut;have n:=A c;clear c;go_wp2;go_loopw [1,5](λZ a0 wr=>∃(v:Nat)(o:Int),v<=j a.ap/\a0=C B v/\Z=ah o/\0<=o/\o<=b/\la (a.ap.drop v) o=gR a b/\F [] wc wr)(λ_ a2 _=>j a.ap -(intOf a2).toNat);(.exact⟨0,b,gr _,u,u,m,m,by rw[W.h];rfl,aj⟩);obtain⟨f,p,aF,rfl,rfl,aG,aH,iY:ak _,d:ak _⟩:=hrel;have a3:=d.a3 Y;have aI:=d.size;by_cases w:f<j a.ap;(.obtain⟨aJ,aL,aM,aN,aO,aP,rfl,aR,aS,aT,aU,aV,aW,a4,e,c⟩:=j6 ((S.h.I n.h).I d) w;have a6:=A c;have aX:=mi c;obtain⟨kR,Jg⟩:=aq (Rd w p) (xx w);clear e c;generalize a.ap[f]=c at*;by_cases r5:p<1;(.go_wp2;go_ret;exact⟨ew (by rw[<-iY.h,kR.h,dz r5];rfl),n.aa d⟩);.have a7:=A (Rg:(match lF c.a6 (p - 1)with|G=>G|H a9=>la (a.ap.drop<|f+1) a9)=gR a b);go_wp2;go_loopw [1,6](λad ae af=>∃(y:Nat)(q:Int),y<=j c.a6/\ae=ah y/\ad=ah q/\0<=q/\q<=b/\(match lF (c.a6.drop y) q with|G=>G|H ag=>la (a.ap.drop<|f+1) ag)=gR a b/\F [] wr af)(λ_ ai _=>j c.a6 -(intOf ai).toNat);(.exact⟨0,p - 1,gr _,u,be,m,m,a7,aj⟩);obtain⟨g,h,aY,rfl,rfl,L,al,z:ak _,e:ak _⟩:=hrel;have aZ:=e.a3 a3;have a':=e.a3 a4;have b0:=e.size;by_cases D:g<j c.a6;(.obtain⟨b1,b2,b3,b4,rfl,b5,b6,b7,b8,am:ak _⟩:=jN (a6.I e) D;obtain⟨r,Jh⟩:=aq (Re D h) (xy D);have E:=P N c.a6[g] Rh _ h wr ⟨_,_,u,am⟩ m m;have i:=A E;clear E;cases E:gR c.a6[g] h with|none=>rw[E]at i r;go_wp2_with(go_at_call 119;refine ab i ?_;rintro ao ao⟨rfl,an:ak _⟩);go_ret;exact⟨ew (by rw[<-z.h,r.h];rfl),((n.aa d).aa e).aa an⟩|some an=>obtain⟨ao,b9⟩:=zI E L;rw[E]at i r;have ap:=A (i);clear i;go_wp2_with(go_at_call 119;refine ab ap ?_;rintro ba bb⟨rfl,ar:ak _⟩);go_roundw;(.exact⟨g+1,an,m,be,u,ao,m,by rw[<-z.h,r.h],e.aa ar⟩);simp[intOf];omega);. (have i:=A<|show la (a.ap.drop<|f+1) h=gR a b by rw[<-z.h,rX (m:j c.a6<=g),lF]);go_wp2;go_roundw;(.exact⟨f+1,h,m,be,u,L,al,i,d.aa e⟩);simp[intOf];omega);.go_wp2;go_ret;exact⟨ew (by rw[<-iY.h,rX m,la];rfl),n.aa d⟩
def lQ(a:ch):Int:=if(gR a 600).isSome then 600 -(gR a 600).getD 0 else -1
def Ri(a:ch)(g:ay)(b:a5)(h:nX w b a g):aQ aK 81 #[g] b (fe b<|ah<|lQ a):=by
 have l:=A h;obtain⟨i,j,rfl,_⟩:=h;have n:∀d,F [] b d->aQ aK 119 #[aO #[a1 i a.ap j,ah a.aY],ah 600] d (fe d<|ah<|(gR a 600).getD<|-1):=λo p=>Rf _ w a (l5 _) _ 600 o (l.a9 p a4) m m;have e:=A n;cases c:gR a 600 with|none=>have f:=A (by simp[lQ,c]:lQ a= -1);rw[c]at e;go_enter func81,ntmps81;go_wp2_with(go_at_call 119;refine ab (e _<|aj.alloc _) ?_;rintro q q⟨rfl,k:ak _⟩);go_ret;exact⟨ew f.symm,(aj.alloc _).aa k⟩|some k=>obtain⟨s,t⟩:=zI c m;(have q:∀f,F [] b f->aQ aK 119 #[aO #[a1 i a.ap j,ah a.aY],ah 600] f (fe f<|ah k):=λu v=>a4);clear e;go_enter func81,ntmps81;go_wp2_with(go_at_call 119;refine ab ((A q) _<|aj.alloc _) ?_;rintro x y⟨rfl,r:ak _⟩);go_ret;exact⟨ew (A (by simp[lQ,c]:lQ a=600 - k)).symm,(aj.alloc _).aa r⟩
def Ji{b:ch}:(decide<|lQ b<0)=!(gR b 600).isSome:=by
 unfold lQ;cases a:gR b 600 with|none=>simp|some c=>obtain⟨d,e⟩:=zI a m;simp;omega
structure ds(a0:aw)(y:a5)(s:b6)(gI:az)(gB:Nat)(i8:az)(gC:Nat):Prop where
 a:a7 a0 y (aI s.am) (q gI (j s.am) gB)
 k:a7 a0 y (l9 s.a6) (q i8 (j s.a6) gC)
theorem ds.I{y:a5}{a:b6}(b:ds w y a R e Y J)(c:F [] y i):ds w i a R e Y J:=⟨b.a.I c,b.k.I c⟩
def Rj(k:ay)(a:ad)(b:b6)(l:az)(n:Nat)(o:az)(p:Nat)(f:a5)(g:a7 w f (aI a) k)(t:ds w f b l n o p)(z:j a<=1073741824):aQ aK 159 #[k,aO #[ah b.af,ah b.an,ah b.b1,q l (j b.am) n,q o (j b.a6) p]] f (fe f<|.bool<|kI a b.af b.b1):=by
 have u:=A g;obtain⟨B,C,rfl,_⟩:=bB g;clear g t;generalize b.af=e;generalize b.b1=c;by_cases r:c=0;.subst r;go_enter Bw,Jb;go_wp2;go_ret;exact⟨by simp[kI],aj.alloc _⟩
 have D:(c==0)=false:=a4;have h:kI a e c=(e==6&&bS 1 c (j a)&&decide (0<aU a (c - 1).toNat 0)):=by simp[kI,r]
 by_cases v:e=6;.subst v;cases i:bS 1 c (j a);(.have d:=A (a4:kI a 6 c=false);clear h;go_enter Bw,Jb;go_wp2_with(go_at_call 107;refine ab (gt _ _ _ _) ?_;rintro s s⟨rfl,rfl⟩;rw[i]);go_ret;exact⟨cP d.symm,aj.alloc _⟩);.obtain⟨E,F⟩:=fk i;obtain⟨d,s⟩:=dA (m:0<=c - 1);(obtain rfl:c=d+1:=m);(have x:d<j a:=m);have y:=A (a4:kI a 6 ((d:Int)+1)=decide (0<a[d]));obtain⟨G,H,rfl,_,I,J⟩:=c0 u x;(have K:IntKind.i64.wrap ((d:Int)+1 - 1)=d:=by rw[s];exact tX);clear h s;generalize a[d]=s at*;go_enter Bw,Jb;go_wp2_with(go_at_call 107;refine ab (gt _ _ _ _) ?_;rintro b b⟨rfl,rfl⟩;rw[i]);go_ret;exact⟨cP y.symm,aj.alloc _⟩
 . (have b:(e==6)=false:=a4);have b:=A (a4:kI a e c=false);clear h;go_enter Bw,Jb;go_wp2;go_ret;exact⟨cP b.symm,aj.alloc _⟩
def Rk(d:aH)(a:ad)(c:Int)(b:ad):(j b≠1/\iF d a c b= -1)\/∃f,b=[f]/\((bS 0 f (j a - 1)=false/\iF d a c b= -1)\/∃e:Nat,f=e/\∃o:e<j a,bS 0 f (j a - 1)=true/\((a[e]=0/\iF d a c b= -1)\/(a[e]≠0/\iF d a c b=if c≠14/\c≠15/\e8 d.ai a[e]=true then -1 else 0))):=by
 by_cases i:j b=1;.right;(obtain⟨g,rfl⟩:∃k,b=[k]:=by match b,i with|[h],_=>exact⟨h,u⟩);refine⟨g,u,?_⟩;cases l:bS 0 g (j a - 1);(.grind[iF]);.right;obtain⟨n,p⟩:=fk l;obtain⟨h,rfl⟩:=dA n;(have b:h<j a:=m);refine⟨h,u,b,u,?_⟩;grind[iF]
 grind[iF]
def Rl{a0:aw}(b:aH)(g:az)(h:Nat)(o:az)(p:Nat)(z:ay)(c:ad)(a:b6)(r:az)(s:Nat)(t:az)(v:Nat)(d:a5)(D:cr a0 d b g h o p)(w:a7 a0 d (aI c) z)(E:ds a0 d a r s t v)(a3:j c<=1073741824):aQ aK 166 #[aO #[q g (j b.ai) h,q o (j b.ag) p],z,aO #[ah a.af,C B a.an,C B a.b1,q r (j a.am) s,q t (j a.a6) v]] d (fe d<|C B<|iF b c a.af a.am):=by
 obtain⟨L,M,N⟩:=bb D w E;obtain⟨a6,a9,rfl,_⟩:=bB w;clear D w E;have O:=Rk b c a.af a.am;generalize f:iF b c a.af a.am=aa at*;generalize F:a.am=P at*;generalize a.af=e at*;have ae:IntKind.i64.wrap ((j c:Int)- 1)=(j c:Int)- 1:=fl _ m;have x:=A N.a;rw[F]at x;clear f;have af:=A F;rcases O with⟨ag,rfl⟩|⟨ai,rfl,Q⟩;.generalize j P=f at*;go_enter func166,ntmps166;go_wp2;go_ret;exact⟨u,(aj.alloc _).alloc _⟩
 simp only[gv,jO,yT]at x⊢;go_enter func166,ntmps166;go_upto_region 0 with fail;go_cut [3,5](λR S wx=>R=d0 d 0/\S=c8 (l4 d 1 0)/\dq d wx #[a1 g b.ai h,a1 o b.ag p] #[ah e,ah a.an,ah a.b1,q r 1 s,a1 t a.a6 v] 26 47);. exact yq
 obtain⟨rfl,rfl,f⟩:=hcut;have bW:=A f.a9;obtain⟨⟨ak,al⟩,_⟩:=b8 f.d5;obtain⟨am,an,ao,ap,aq⟩:=dI f.cz;clear f;obtain⟨ar,au,rfl,_,ax,T⟩:=c0 (x.I bW) (av:=0) a8;simp only[kH,EA]at T;rcases Q with⟨oN,rfl⟩|⟨G,rfl,U,oN,V⟩;(. exact Rm);.obtain⟨aA,aB,rfl,_,aC,aD⟩:=c0 (M.I bW) U;generalize c[G]=f at*;(have k:∀H I,(H=Ending.returned (.bool<|bS 0 (G:Int)<|j c - 1)/\wc=I)->(H=Ending.returned (.bool true)/\wc=I):=λaE aF aG=>a4);have q0:=A k;clear k;rcases V with⟨rfl,rfl⟩|⟨aJ,J⟩;(.go_wp2_with(go_at_call 107;refine ab (gt _ _ _ _) ?_;rintro l n k;obtain⟨rfl,rfl⟩:=q0 _ _ k);go_ret;exact⟨u,bW⟩);. (have aL:(f==0)=false:=a4);have xz:=A J;clear J;have W:=A<|L.d.I bW;have l:∀K,aQ aK 165 #[a1 g b.ai h,ah f] (g4 wc K) λX Y=>X=bd (.bool<|e8 b.ai f)/\g4 wc K=Y:=λZ=>rY _ _ f _<|W.drewN Z;have k:=A l;clear l;by_cases l:e=14;(.subst l;exact Rn);. (have aM:(e==14)=false:=by simpa using l);by_cases y:e=15;(.subst y;exact Rn);. (have aN:(e !=14)=true:=by simpa using l);(have aP:(e !=15)=true:=by simpa using y);cases n:e8 b.ai f;(.rw[n]at k;go_wp2_with(go_at_call 107;refine ab (gt _ _ _ _) ?_;rintro aR aS a2;obtain⟨rfl,rfl⟩:=q0 _ _ a2);go_quiet((go_at_call 165;exact kc<|k _));go_wp2;go_ret;exact⟨ew (by rw[xz.h,n];simp),bW.drewN _⟩);.rw[n]at k;go_wp2_with(go_at_call 107;refine ab (gt _ _ _ _) ?_;rintro aR aS a2;obtain⟨rfl,rfl⟩:=q0 _ _ a2);go_quiet((go_at_call 165;exact kc<|k _));go_wp2;go_ret;exact⟨ew (by rw[xz.h,n];simp[l,y]),bW.drewN _⟩
def Ro{a:Program}{b:FuncId}{c:Array ay}(d:aQ a b c (g4 i<|e+J) λf g=>f=bd K/\g4 i (e+J)=g):aQ a b c (g4 i<|e+J) λa b=>a=bd K/\∃a,b=g4 i (e+a):=d.mono λ_ _⟨a,b⟩=>⟨a,J,b.symm⟩
def Rp{a:Program}{b:FuncId}{c:Array ay}(d:aQ a b c (g4 i<|e+J) λf g=>f=bd K/\g4 i (e+J)=g):aQ a b c (g4 i<|e+J) λa b=>a=bd K/\∃a,b=(g4 i e).drewN a:=d.mono λ_ _⟨a,b⟩=>⟨a,J,bq⟩
def Jj(d:a7 w i (aI L) (q R e J)){k c:Nat}(C:k<=j L)(E:k<=c)(n:c<=9223372036854775807):a7 w i (aI<|L.take k) (q R k c):=by
 simp only[aI,a7]at d⊢;obtain⟨F,G,o,H,I,p⟩:=d;injection o with r K M;subst r;have h:j (b5<|L.take k)=k:=va;refine⟨R,c,by rw[h],m,n,λs=>?_⟩;obtain⟨b,l,t,u,v,x⟩:=p (by rw[h]at s;rw[cN];omega);exact⟨b,l,t,u,v,(((by intro y;induction y with|nil=>intro a a a;simpa[b5]using a|cons N O z=>intro A D a;cases A with|zero=>simp[b5,e3]|succ B=>simp only[b5,ha,e3,jU]at a⊢;exact⟨a.1,a.2.1,z B (D+1) a.2.2⟩:∀(f:ad)(k g:Nat),e3 w i 1 b (b5 f) g->e3 w i 1 b (b5<|f.take k) g)) L k l x)⟩
def Rq{c:Nat}(a:a7 w i (aI<|M::L) (q (aZ e J) Q V))(n:j L<=c)(f:c<=9223372036854775807):a7 w i (aI L) (q (aZ e<|J+1) (j L) c):=by
 simp only[aI,a7]at a⊢;obtain⟨o,p,g,r,s,h⟩:=a;injection g with k t v;obtain⟨x,y,b,l,m,d⟩:=h te;rw[<-k]at b;cases b;refine⟨_,c,vp,oE,f,λ_=>⟨e,J+1,u,l,m,?_⟩⟩;simp only[b5,ha,e3]at d;exact d.2.2
def Rr(a:aH)(e:ad)(d c:Int)(f:ad):(bS 0 c (j a.ag - 1)=false/\kg a e d c f= -1)\/∃b:Nat,c=b/\b<j a.ag/\bS 0 c (j a.ag - 1)=true/\((d=9/\kg a e d c f=if eC e f (dg a b).aC then(dg a b).bs else -1)\/(d≠9/\kg a e d c f=if(dg a b).aC.length=0\/0<(dg a b).aG.length\/eC e f ((dg a b).aC.take<|(dg a b).aC.length - 1)=false then -1 else gu a.ai ((dg a b).aC.getD ((dg a b).aC.length - 1) 0) (dg a b).bs)):=by
 cases g:bS 0 c (j a.ag - 1);.grind[kg]
 .right;obtain⟨h,k⟩:=fk g;obtain⟨i,rfl⟩:=dA h;refine⟨i,u,m,u,?_⟩;by_cases a:d=9;(.grind[kg]);.grind[kg]
def Rs{a0:aw}(d:aH)(B:az)(C:Nat)(D:az)(E:Nat)(P:ay)(e:ad)(b:b6)(r:az)(s:Nat)(G:az)(H:Nat)(f:a5)(Q:cr a0 f d B C D E)(I:a7 a0 f (aI e) P)(R:ds a0 f b r s G H)(S:j e<=1073741824)(J:fT d):aQ aK 164 #[aO #[q B (j d.ai) C,q D (j d.ag) E],P,aO #[ah b.af,ah b.an,ah b.b1,q r (j b.am) s,q G (j b.a6) H]] f (fe f<|ah<|kg d e b.af b.an b.am):=by
 obtain⟨T,ae,af⟩:=bb Q I R;have aE:=J.nr;have ag:=A J.hf;obtain⟨ai,aj,rfl,_⟩:=bB I;clear Q I R J;have ak:=Rr d e b.af b.an b.am;generalize g:kg d e b.af b.an b.am=aF at*;generalize a:b.am=h at*;generalize b.af=U at*;generalize b.an=al at*;have aG:IntKind.i64.wrap ((j d.ag:Int)- 1)=(j d.ag:Int)- 1:=fl _ m;have V:=A af.a;rw[a]at V;clear g a;go_enter func164,ntmps164;go_upto_region 0 with fail;go_cut [3,5](λam an wx=>am=d0 f 0/\an=e7 f 1 0/\dq f wx #[a1 B d.ai C,a1 D d.ag E] #[ah U,ah al,ah b.b1,a1 r h s,a1 G b.a6 H] 26 47);. exact fr
 obtain⟨rfl,rfl,a⟩:=hcut;have bW:=A a.a9;have aJ:=a.size;obtain⟨⟨aL,aM⟩,_⟩:=b8 a.d5;obtain⟨aP,aR,aS,aT,aV⟩:=dI a.cz;clear a;rcases ak with⟨oN,rfl⟩|⟨K,rfl,W,oN,X⟩;(. exact Rm);.obtain⟨aW,aY,Y,i,t,v,w,x,rfl,_,a',b0,b1,b2,b3,b4,a,g,_⟩:=hl (T.r.I bW) W;have l:=p2 W;have ao:=ag K;rw[l]at X ao;obtain⟨ap,b5⟩:=aq a g;obtain⟨b9,ar⟩:=tK a;clear a g l;generalize d.ag[K]=a at*;(have g:∀Z a2,(Z=Ending.returned (.bool<|bS 0 (K:Int)<|j d.ag - 1)/\wc=a2)->(Z=Ending.returned (.bool true)/\wc=a2):=λba bc bd=>a4);have q0:=A g;clear g;have gp:=A (bW.alloc _:F [] f (aX wc<|au #[a1 Y a.aC i,a1 t a.aG v,ah a.bs,a1 w a.aD.ap x,ah a.aD.aY] 40));obtain⟨a3,a6,L,av⟩:=cd (ae.I gp) (V.I gp.h) (ap.h.alloc<|au #[q Y (j a.aC) i,q t (j a.aG) v,ah a.bs,a1 w a.aD.ap x,ah a.aD.aY] 40) (T.d.I gp);rcases X with⟨rfl,l⟩|⟨be,l⟩;(.have xz:=A l;clear l;have mS:=A<|zl _ _ _ e h a.aC _ a3 a6 L S;cases xA:eC e h a.aC;(. exact Rt);. exact Rt);.have n:=A l;(have bf:(U==9)=false:=a4);clear l;by_cases o:j a.aC=0;(. (have y:((j a.aC:Int)==0)=true:=by simp[o]);have g:=A o;clear o;go_wp2_with(first|(go_at_call 107;refine ab (gt _ _ _ _) ?_;rintro z M p;obtain⟨rfl,rfl⟩:=q0 _ _ p));go_quiet(fail);go_wp2;go_ret;exact⟨ew (by rw[n.h,dz (aN g.h)]),gp.drewN _⟩);(have bg:((j a.aC:Int)==0)=false:=a4);by_cases p:0<j a.aG;(.have y:=ik p;go_wp2_with(go_at_call 107;refine ab (gt _ _ _ _) ?_;rintro z M g;obtain⟨rfl,rfl⟩:=q0 _ _ g);go_quiet(fail);go_wp2;go_ret;exact⟨ew (by rw[n.h,dz (bk<|aN p)]),gp.drewN _⟩);have bh:=zN p;(have bi:IntKind.i64.wrap ((j a.aC:Int)- 1)=((j a.aC - 1:Nat):Int):=by rw[show(j a.aC:Int)- 1=((j a.aC - 1:Nat):Int)by omega];exact tX);obtain⟨y,ax⟩:=aq (m:j a.aC - 1<j a.aC) (Jj L (k:=a.aC.length - 1) (c:=i) m m ar);generalize bj:j a.aC - 1=g at*;(have bl:(j a.aC:Int)- 1=g:=m);obtain⟨M,N,aA,_,bm,bn⟩:=c0 L y;(have a8:aU a.aC g 0=a.aC[g]' y.h:=a4);rw[a8]at n;subst aA;have bo:=y.h;have a9:=A (λaB=>Cf _ d.ai (a.aC[g]' y.h) a.bs _<|av.drewN aB);have aa:∀aC,aQ aK 160 #[a1 ai e aj,a1 r h s,q (aZ M N) g i] ((aX wc<|au #[a1 (aZ M N) a.aC i,a1 t a.aG v,ah a.bs,a1 w a.aD.ap x,ah a.aD.aY] 40).drewN aC) (o3 ((aX wc<|au #[a1 (aZ M N) a.aC i,a1 t a.aG v,ah a.bs,a1 w a.aD.ap x,ah a.aD.aY] 40))<|.bool<|eC e h<|a.aC.take g):=λO=>(zl _ _ _ e h (a.aC.take g) _ (a3.drewN O) (a6.drewN O) (ax.drewN O) S).mono λ_ _ aD=>aD.dJ;obtain⟨z,bp⟩:=aq aa (And.intro o p);clear aa a8 o p;cases o:eC e h (a.aC.take g);(.rw[o]at z;go_wp2_with(go_at_call 107;refine ab (gt _ _ _ _) ?_;rintro a8 aa p;obtain⟨rfl,rfl⟩:=q0 _ _ p);go_quiet((go_at_call 160;exact z _));go_wp2;go_ret;exact⟨ew (by rw[n.h,o,dz (bk<|bk u)]),gp.drewN _⟩);.rw[o]at z;go_wp2_with(go_at_call 107;refine ab (gt _ _ _ _) ?_;rintro a8 aa p;obtain⟨rfl,rfl⟩:=q0 _ _ p);go_quiet((go_at_call 160;exact z _));go_wp2;go_quiet((go_at_call 217;first|exact Ro<|a9 _|exact Rp<|a9 _));go_wp2;go_ret;exact⟨ew (by rw[n.h,o,ND a4]),((gp.drewN _).drewN _)⟩
def ei{y:a5}{b:Nat}{a c d e f:ay}(b7:y.heap[b]?=H (au #[K,S,a,c,d,e,f] T (0,0))):ax y ⟨b,0,G⟩=H K/\ax y ⟨b,1,G⟩=H S/\ax y ⟨b,2,G⟩=H a/\ax y ⟨b,3,G⟩=H c/\ax y ⟨b,4,G⟩=H d/\ax y ⟨b,5,G⟩=H e/\ax y ⟨b,6,G⟩=H f:=by
 refine⟨?_,?_,?_,?_,?_,?_,?_⟩;. exact xg
 . exact zp
 . exact L8
 . exact SZ
 .rw[ka y b 4 _ _ _ b7];rfl
 .rw[ka y b 5 _ _ _ b7];rfl
 .rw[ka y b 6 _ _ _ b7];rfl
def DA(b:ad):Prop:=∀a(c:a<j b),b[a]<a
def Ru{a:ad}(b:J<j Z)(b:J<j a):gG L Z a (e+1) J=if Z[J]<1/\dK L J=false then(if a[J]<0 then false else gG L Z a e a[J])else true:=by grind[gG,Int.toNat_natCast]
def Rv(y:Nat)(N z B O P Q n:ay)(R:bJ)(a b c:ad)(e:Nat)(d:a5)(C:d.heap[y]?=H (au #[N,z,B,O,P,Q,n] R (0,0)))(o:a7 w d (aI a) z)(p:a7 w d (aI b) B)(D:a7 w d (aI c) n)(ae:j b=j a)(E:DA b)(G:e<j a):aQ aK 70 #[f3 y 0,ah e] d (o3 d<|.bool<|gG c a b (j a) e):=by
 obtain⟨_,S,T,_,_,_,U⟩:=ei C;obtain⟨V,W,X,Y⟩:=cd o p D E;obtain⟨af,ag,rfl,ai,_⟩:=bB o;obtain⟨ak,al,rfl,am,_⟩:=bB p;clear o p D E C;generalize g:gG c a b (j a) e=f;have Z:=A (⟨_,G,g⟩:∃I,e<I/\gG c a b I e=f);clear g;go_enter func70,ntmps70;go_wp2;go_loopw [1](λa0 wr=>∃h:Nat,h<j a/\a0=ah h/\(∃J,h<J/\gG c a b J h=f)/\∃a1,wr=g4 d a1)(λa2 _=>(intOf a2).toNat);.exact⟨e,G,u,Z,0,u⟩
 obtain⟨g,K,rfl,a3,q1⟩:=hrel;obtain⟨a4,an,q⟩:=a3;cases a4 with|zero=>omega|succ L=>obtain⟨i,k⟩:=aq q1 (Rw:F [] d wr);obtain⟨ao,ap,ar⟩:=k.e1 S T U;(have r:g<j b:=m);rw[Ru K r]at q;have av:=Y g r;have l:=A q;clear q q1;obtain⟨ax,az,rfl,_,aA,aB⟩:=c0 (V.I k) K;obtain⟨aC,aD,rfl,_,aE,aF⟩:=c0 (W.I k) r;have s:=A<|jn n c g wr<|X.I k;generalize a[g]=a6 at*;generalize b[g]=t at*;generalize dK c g=a8 at*;by_cases v:a6<1;(.cases a8;(.by_cases x:t<0;(.go_wp2_with(go_at_call 109;refine ab s ?_;rintro M M⟨rfl,rfl⟩);go_ret;exact⟨cP (A (by rw[<-l.h];simp[v,x]:f=false)).symm,i⟩);.have a9:=A (by rw[<-l.h];simp[v,x]:gG c a b L t=f);(have M:0<=t:=m);obtain⟨aa,rfl⟩:=dA M;clear x M;go_wp2_with(go_at_call 109;refine ab s ?_;rintro e e⟨rfl,rfl⟩);go_roundw;(.exact⟨aa,m,u,⟨L,m,a9⟩,i⟩);exact fi);.have e:=A (by rw[<-l.h];simp:f=true);go_wp2_with(go_at_call 109;refine ab s ?_;rintro h h⟨rfl,rfl⟩);go_ret;exact⟨cP e.symm,i⟩);.go_wp2;go_ret;exact⟨cP (A (by rw[<-l.h];simp[v]:f=true)).symm,i⟩
end
theorem DB{bv:aw}{bL:a5}:∀{a:ad}{b:dd},cu w i (b5 a).flatten b->cu bv bL (b5 a).flatten b|[],[],_=>Du|[],_::_,b7=>tJ|_::_,[],b7=>tJ|a::d,b::e,c=>by have vn:=c;(have c:a7 bv bL (.int a) b:=Ja);exact⟨c,(DB (bv:=bv) (bL:=bL) vn.2)⟩
def aS.aI{bv:aw}{bH:ad}(b:aS w e i T 1 K (b5 bH))(c:∀a,a∈aF K->a∉bv):aS bv e i T 1 K (b5 bH):=by
 obtain⟨⟨a,d,e⟩,f,_⟩:=b;exact⟨⟨a,d,DB e⟩,f,c⟩
structure ho(a0:aw)(aA y:a5)(p:Nat)(cU:bJ)(dW:dd)(cE:List ad):Prop where
 cF:y.heap[p]?=H (au dW.toArray cU (0,0))
 ae:∀(av:Nat)v z,dW[av]?=H v->cE[av]?=H z->aS (p::a0) (x aA.heap) y 3 1 v (b5 z)
 dY:∀(av cL:Nat)cQ v,av≠cL->av<j cE->dW[av]?=H cQ->dW[cL]?=H v->∀g,g∈aF cQ->g∉aF v
 p3:∀(av:Nat)v,dW[av]?=H v->∀g,g∈aF v->g<x y.heap
 a9:F [] aA y
 fK:x aA.heap<=p
section
variable{a0:aw}{aA y wx bP:a5}{p:Nat}{cU:bJ}{dW:dd}{cE:List ad}
def ho.lt(a:ho a0 aA y p cU dW cE):p<x y.heap:=(f4.1 a.cF).1
theorem ho.I(a:ho a0 aA y p cU dW cE)(b:F [] y wx):ho a0 aA wx p cU dW cE:=⟨(b.block p a.lt a8).trans a.cF,λc d e f g=>(a.ae c d e f g).I b,a.dY,λc d e f g=>ft (a.p3 c d e f g) b.size,a.a9.aa b,a.fK⟩
def ho.push(b7:ho a0 aA y p cU dW cE)(a:F [] y wx){av:Nat}(f:av<j cE)(b:dW[av]?=H K)(z:cE[av]?=H L)(LY:aS (p::a0) (x aA.heap) bP 3 1 S (b5 Z))(c:ma (p::a0) K S wx bP):ho a0 aA (bZ bP (bl p av) S) p cU (dW.set av S) (cE.set av Z):=by
 have A:p<x wx.heap:=ft b7.lt a.size;have o:=b7.ae av K L b z;have B:p∉aF K:=λC=>o.dY p C a8;have Bu:=(tL.1 b).1;have q:∀i,i∈aF S->i∈aF K\/i=x wx.heap:=λJ N=>by rcases c.dJ with d|d;(.grind[aF]);.grind[aF]
 have r:F [p] bP (bZ bP (bl p av) S):=aj.setCell (aN a8) _;have O:x wx.heap<=x bP.heap:=c.a9.size;have P:=a.size;refine⟨?_,?_,?_,?_,?_,b7.fK⟩;.rw[fJ ((c.a9.block p A B).trans<|(a.block p b7.lt a8).trans b7.cF)];simp
 .intro l m s d e;by_cases n:av=l;(.subst n;rw[vq Bu]at d;rw[vq f]at e;cases d;cases e;exact LY.a9 r a4);.rw[ob n]at d e;have t:=(b7.ae l m s d e).I a;(have D:aS (p::a0) (x aA.heap) bP 3 1 m (b5 s):=by refine aS.sub (a0:=aF K++(p::a0)) ?_ a4;refine aS.a9 (y:=wx) (cR:=aF K) ?_ c.a9 a4;refine t.aI λs v E=>?_;rcases cK.1 E with e|e;(.exact(b7.dY av l K m n f b d) s e v);.exact t.dY s v e);exact D.a9 r a4
 .intro cL k cQ bH GQ NB kP rE g tr Dl;rw[kn]at NB;by_cases d:av=cL;(.subst d;rw[vq Bu]at kP;cases kP;rw[ob GQ]at rE;rcases q g tr with e|e;(.exact b7.dY av k K bH GQ f b rE g e Dl);.have:=b7.p3 k bH rE g Dl;omega);.rw[ob d]at kP;by_cases M0:av=k;(.subst M0;rw[vq Bu]at rE;cases rE;rcases q g Dl with e|e;(.exact b7.dY cL av cQ K (Ne.symm d) NB kP b g tr e);.have:=b7.p3 cL cQ kP g tr;omega);. exact a22
 .intro b d kP g tr;rw[yR];by_cases GR:av=b;(. exact a23);.rw[ob GR]at kP;have:=b7.p3 b d kP g tr;omega
 .refine((((b7.a9.aa a).ca.then c.a9:F (aF K) aA bP)).setCell (bk b7.fK) _).mono λa b=>bk (o.lt a b).1
end
def dN(c:ad)(a:Int):Prop:=∀b∈c,-a<=b/\b<=a
def dN.mono{DC:Int}(a:dN L M)(b:M<=DC):dN L DC:=λb c=>by have:=a b c;omega
theorem dN.getD(b:dN L M)(e:0<=M)(a:Nat): -M<=L.getD a 0/\L.getD a 0<=M:=by
 rw[h4];cases c:L[a]? with|none=>simp;omega|some d=>exact b d<|s1 c
theorem dN.set(b:dN L M)(av:Nat){aP:Int}(a: -M<=aP/\aP<=M):dN (L.set av aP) M:=λc d=>by rcases xB d with a|a;(.exact b c a);.grind
def dN.app(c:dN L M)(d:dN Z M):dN (L++Z) M:=λb e=>by rcases cK.1 e with a|a;(.exact c b a);.exact d b a
theorem dN.dh(b:dN L M)(c:0<=M)(a:dh L W=H Z):dN Z M:=by
 unfold Go.Proofs.YtfekcilkpafpjaaGreat.dh at a;split at a;.cases a
 .cases a;have:=b.getD c<|bF W;exact b.set _ m
theorem dN.h5:∀(b c:ad)(d a:Int),dN c a->0<=a->dN (h5 c d b) (a+j b)|[],b,c,d,a,_=>by simpa[Go.Proofs.YtfekcilkpafpjaaGreat.h5]using a|e::f,b,a,d,c,g=>by have h:=c.getD g<|bF a;(have g:dN (if e≠0 then b.set (bF a) (aU b (bF a) 0+1)else b) (d+1):=by split;(.exact(c.mono m).set _ m);.exact c.mono m);have:=dN.h5 f _ (a+1) (d+1) g m;rw[Go.Proofs.YtfekcilkpafpjaaGreat.h5];refine this.mono ?_;simp only[gv];omega
theorem dN.fc(c:aH)(d:ad)(f g:Int)(b:ad):∀(q u:Nat)(m n:ad)(i:Int),dN m i->0<=i->fc c d f g b m q u=H n->dN n i|0,v,w,y,z,b7,_,db=>a1S|o+1,k,p,r,s,t,l,a=>by rw[Go.Proofs.YtfekcilkpafpjaaGreat.fc]at a;split at a;(.cases j:Go.Proofs.YtfekcilkpafpjaaGreat.dh p (aU b k 0)with|none=>rw[j]at a;cases a|some i=>rw[j]at a;exact dN.fc c d f g b o (k+1) i r s (t.dh l j) l a);.exact dN.fc c d f g b o (k+1) p r s t l a
theorem dN.hH{c:bz}{e:Int}{b:Int}(f:dN X.ae b)(g:0<=b)(a:hH O L X M W e Z=H c):dN c.ae b:=by
 unfold Go.Proofs.YtfekcilkpafpjaaGreat.hH at a;cases d:Go.Proofs.YtfekcilkpafpjaaGreat.fc O X.ao M W Z X.ae (j Z) 0 with|none=>grind|some i=>rw[d]at a;have h:=dN.fc _ _ _ _ _ _ _ _ _ _ f g d;simp only[]at a;(repeat' split at a);all_goals first|(cases a;done)|(cases a;exact h)
theorem dN.i0{d:bz}{b:Int}(f:∀g,j (bg O.ai g)<=1000)(h:dN X.ae b)(e:0<=b)(a:i0 O X M W=H d):dN d.ae (b+1000):=by
 unfold Go.Proofs.YtfekcilkpafpjaaGreat.i0 at a;split at a;.cases a
 .cases c:Go.Proofs.YtfekcilkpafpjaaGreat.dh X.ae W with|none=>rw[c]at a;cases a|some i=>rw[c]at a;cases a;have:=f<|aU X.cI (bF W) 0;exact(dN.h5 _ _ _ _ (h.dh e c) e).mono m
def DD(c:aH)(a:bz)(d:Int)(e:ad)(f:Int)(b:dN a.ae M)(h:0<=M):dN (gT c a d e f).ae M:=by
 unfold gT;split;.rw[s6];refine b.app λi g=>?_;obtain⟨_,_,rfl⟩:=iV.1 g;omega
 .exact b
mutual theorem Rx{q:aH}(ab:∀ae,j (bg q.ai ae)<=1000)(v:ad):∀(L:ch)(M N:bz)(af:Nat)(w:Int),dN M.ae w->0<=w->hm q v M af L=H N->dN N.ae (w+1001*bC L)|.mk c ag,O,aC,ah,e,ai,aj,a=>by rw[hm]at a;rw[bC];cases d:ij q v O c with|none=>grind|some f=>rw[d]at a;have k:=Jk ab v c O f e ai aj d;have g:=k.mono (DC:=e+1001*((c9 c+1:Nat):Int)) m;(have l:0<=e+1001*((c9 c+1:Nat):Int):=m);simp only[]at a;have h:∀(i:ad),dN i (e+1001*((c9 c+1:Nat):Int))->dN (i.take ah) (e+1001*((c9 c+1:Nat):Int)):=λr n o p=>n o<|List.mem_of_mem_take p;split at a;(.cases b:Go.Proofs.YtfekcilkpafpjaaGreat.dh f.ae ag with|none=>rw[b]at a;cases a|some s=>rw[b]at a;simp only[]at a;split at a;(.cases a;exact h _<|g.dh l b);.cases a);.split at a;(.cases a;exact h _ g);.cases a theorem Jk{x:aH}(P:∀ak,j (bg x.ai ak)<=1000)(l:ad):∀(Q:bE)(R S:bz)(y:Int),dN R.ae y->0<=y->ij x l R Q=H S->dN S.ae (y+1001*c9 Q)|[],aD,aE,aF,aG,_,aI=>by grind[ij,c9]|T::al,U,am,an,ao,ap,z=>by rw[ij]at z;rw[c9];cases b:i1 x l U T with|none=>grind|some d=>rw[b]at z;have f:=Jk P l al d am _ (Jl P l T U d an ao ap b) m z;exact f.mono m theorem Jl{n:aH}(V:∀aq,j (bg n.ai aq)<=1000)(A:ad):∀(W:b6)(X Y:bz)(B:Int),dN X.ae B->0<=B->i1 n A X W=H Y->dN Y.ae (B+1001*c5 W)|.mk D Z aJ o f,a0,aL,p,d,g,E=>by rw[i1]at E;rw[c5];obtain⟨h,b,i⟩:=wV.1 E;(have s:dN h.ae (p+1000+1001*du f):=by clear E i;have F:=d.getD g (aU o 0 0).toNat;split at b;(.split at b;(.cases b;exact(d.mono m).set _ m);.cases b);.split at b;(.obtain⟨t,k,r⟩:=wV.1 b;subst r;exact(d.dh g k).mono m);.split at b;(.exact(d.i0 V g b).mono m);.split at b;(.split at b;(.cases b);.cases k:i2 n A a0 D o f (if D=8 then bt n.ai Z else []) G with|none=>grind|some t=>cases t with|none=>grind|some r=>have u:=DE V A f _ G a0 D o r p (p+1000+1001*du f) d g m (λI C=>by cases C) k;obtain⟨J,K⟩:=r;rw[k]at b;cases b;exact u);.exact(d.hH g b).mono m);subst i;have k:dN h.ae (p+1001*((du f+j o+1+pen Z:Nat):Int)):=s.mono m;split;(.show dN (h.ae++[_]) _;refine k.app λt r=>?_;rcases kC.1 r with rfl;split<;>omega);.exact k theorem DE{h:aH}(C:∀ar,j (bg h.ai ar)<=1000)(i:ad):∀(a1:dy)(au:ad)(a2:Option (ad×ad))(a3:bz)(av:Int)(aw:ad)(a4:ad×ad)(F I:Int),dN a3.ae F->0<=F->F+1001*du a1<=I->(∀a5,a2=H a5->dN a5.1 I)->i2 h i a3 av aw a1 au a2=H (H a4)->dN a4.1 I|[],aM,aP,aS,aT,aV,aW,aY,aZ,_,_,_,a',b0=>by grind[i2,Option.some.inj]|a6::a7,r,ay,k,s,t,a8,J,a9,K,u,az,aA,b=>by rw[i2]at b;rw[du]at az;cases aa:hm h i (gT h k s t<|r.headD 0) (j k.ao) a6 with|none=>grind|some aK=>rw[aa]at b;have ax:=Rx C i a6 _ _ _ J (DD h k s t (r.headD 0) K u) u aa;cases ay with|none=>exact DE C i a7 r.tail _ k s t a8 J a9 K u m (λaN aB=>by cases aB;exact ax.mono m) b|some aB=>simp only[]at b;split at b;(.exact DE C i a7 r.tail _ k s t a8 J a9 K u m aA b);.cases b end
def ge(a:aH)(b:bz):Prop:=∃c d,gm a b c d/\dG a.ai b.ao=true
section
variable{n:aH}{l mU:bz}
theorem ge.ae(a:ge n l):j l.ae=j l.ao:=by
 obtain⟨_,_,b,_⟩:=a;exact b.o0
theorem ge.bK(a:ge n l):j l.bK=j l.ao:=by
 obtain⟨_,_,b,_⟩:=a;exact b.lt
theorem ge.cY(a:ge n l):j l.cY=j l.ao:=by
 obtain⟨_,_,b,_⟩:=a;exact b.qQ
theorem ge.cI(a:ge n l):j l.cI=j l.ao:=by
 obtain⟨_,_,b,_⟩:=a;exact b.me
theorem ge.d9(a:ge n l):j l.d9=j l.ao:=by
 obtain⟨_,_,b,_⟩:=a;exact b.lf
def ge.jr(a:ge n l):dG n.ai l.ao=true:=by
 obtain⟨_,_,_,b⟩:=a;exact b
def ge.zJ(b:ge n l):DA l.cY:=by
 obtain⟨c,c,a,_⟩:=b;intro b c;have:=a.cY b<|(by have:=a.qQ;omega:b<j l.ao);rw[h4,hu c]at this;simp only[y6]at this;rw[this];split;.omega
 .rename_i c b;have d:=a.arm c<|Hd b;have a:=cv.v3.1 (by simpa using He b);omega
def ge.Ry(b:ge n l)(c:e<j l.ao)(a:0<=aU l.cI e 0):(e:Int)<aU l.d9 e 0/\aU l.d9 e 0+j (bg n.ai<|aU l.cI e 0)<=j l.ao:=by
 obtain⟨d,d,a,_⟩:=b;have:=a.cI e c;split at this;.omega
 .rename_i b c;obtain⟨_,d,e⟩:=this;have f:=a.arm b a4;have a:=He c;simp only[he]at a;rw[d,e];omega
def ge.step(f:e9 n=true)(k:ge n l)(d:ad){a:b6}(o:0<=cW n l.ao a)(g:i1 n d l a=H mU):ge n mU/\mU.ao=if gk a.af then l.ao++[cW n l.ao a]else l.ao:=by
 obtain⟨h,e,p,c⟩:=k;have b:=Cz f d a l h e p c o;have i:=b.2 mU g;refine⟨?_,i⟩;rw[g]at b;cases j:js n d e h a with|none=>rw[j]at b;exact b.1.elim|some q=>rw[j]at b;refine⟨q,e,b.1,?_⟩;rw[i];split;(.exact Cm c<|(wY f a l.ao c).jr m);.exact c
theorem ge.gb(e:e9 n=true)(d:ge n l)(b:Int)(a:ad){c:Int}(f:b=8->0<=aU a 0 0/\aU a 0 0<j l.ao/\0<=c):ge n (gT n l b a c)/\(gT n l b a c).ao=l.ao++(if b=8 then bg n.ai c else []):=by
 obtain⟨g,h,e,i⟩:=d;unfold gT;by_cases d:b=8;.obtain⟨b,k,m⟩:=f d;rw[dz d,dz d];(have f:((bg n.ai c).foldl (λ(o:bz)p=>o.grow p 0<|aU a 0 0) {l with cI:=l.cI.set (aU a 0 0).toNat c,d9:=l.d9.set (aU a 0 0).toNat (j l.ao)}).ao=l.ao++bg n.ai c:=by rw[s6]);exact⟨⟨_,_,(e.gb (aU a 0 0) c b k m),by grind[z4,Ck,wU]⟩,f⟩
 .rw[ND d,ND d,pN];exact⟨⟨g,h,e,i⟩,u⟩
def ge.new(b:aH)(a:dB)(c:dG b.ai a.aC=true):ge b (jP a)/\(jP a).ao=a.aC:=by
 have:=x6 b a;exact⟨⟨_,_,this.1,a4⟩,this.2.2⟩
end
section
attribute [local go_sem↓]Go.wp_at_zero Go.wp_at_succ
theorem Jm{b:aw}(a:Int):∀{c:ad}{d:dd}(e:Nat),cu w i (b5 c).flatten d->cu b P (b5<|c.set e a).flatten (d.set e<|ah a)|[],[],_,_=>Du|[],_::_,_,b7=>tJ|_::_,[],_,b7=>tJ|d::e,f::g,0,c=>by have d:=c;exact⟨u,DB d.2⟩|c::g,d::i,e+1,f=>by have vn:=f;(have f:a7 b P (.int c) d:=Ja);exact⟨f,Jm a e vn.2⟩
theorem Jn:∀{a:ad}{b:dd}(c:Nat),cu w i (b5 a).flatten b->cu w i (b5<|a.take c).flatten (b.take c)|[],[],_,_=>a4|[],_::_,_,b7=>tJ|_::_,[],_,b7=>tJ|a::b,c::d,0,e=>Du|a::d,e::f,b+1,c=>by have a:=c;exact⟨a.1,Jn b a.2⟩
section
variable{a0:aw}{b9:Nat}{y:a5}{E:bJ}{z:ad}{b n dp cL:Nat}{v:ay}
def aS.gg(l:aS a0 b9 y E 1 v (b5 z))(d:cL<j z):∃b h,v=q (aZ b 0) (j z) h/\b<x y.heap/\j z<=h/\aW y b cL (ah z[cL])/\y.frozen? (bl b cL)=false:=by
 obtain⟨⟨c,a,e⟩,i,n⟩:=l;rw[cN]at a;have f:j z≠0:=m;have g:cu (aF v++a0) y ((z.map λo=>D.int o)) c:=by(have p:(b5 z).flatten=z.map λr=>D.int r:=by clear a e i d f;induction z with|nil=>rfl|cons s t k=>simp only[b5,ha,lB,jo,iA]at k⊢;rw[k]);rwa [p]at e
 have k:c[cL]?=H (ah z[cL]):=by clear a e i n f;induction z generalizing c cL with|nil=>simp at d|cons p C r=>cases c with|nil=>exact g.elim|cons s t=>have A:s=ah p:=g.1;cases cL with|zero=>simp[A]|succ F=>simpa using r (by simpa using d) t g.2
 rcases a.2 with⟨_,p⟩|⟨r,s,C,rfl,F,t,A,I,J,K⟩;.exact absurd p f
 .exact⟨r,s,u,(f4.1 t).1,A,(a.cellAt cL m).trans k,a.frozenAt cL⟩
def aS.zK(d:aS a0 b9 y E 1 (q (aZ b 0) n dp) (b5 z))(a:Nat)(c:Int):aS a0 b9 (bZ y (bl b a)<|ah c) E 1 (q (aZ b 0) n dp) (b5<|z.set a c):=by
 obtain⟨⟨e,kb,f⟩,k,h⟩:=d;rw[cN]at kb;have i:n=j z:=vr;subst i;refine⟨⟨e.set a<|ah c,by rw[cN,kn];exact(kb.stored a<|ah c).1,Jm c a f⟩,iS _,h⟩
def aS.Rz(d:aS a0 b9 y E 1 (q R n dp) (b5 z))(a:Nat)(v:a<=j z):aS a0 b9 y E 1 (q R a dp) (b5<|z.take a):=by
 obtain⟨⟨e,b,x⟩,A,C⟩:=d;rw[cN]at b;have f:j (z.take a)=a:=aB;have D:aF (q R a dp)=aF (q R n dp):=by cases R<;>rfl
 refine⟨⟨e.take a,?_,by grind[Jn]⟩,iS _,a4⟩;rw[cN,f];refine⟨by rw[CD,b.1];omega,?_⟩;rcases b.2 with⟨c,F⟩|⟨g,H,h,c,i,k,I,l,o,p⟩;.grind
 .injection c with r s t;subst r s t;refine bk ⟨g,dp,h,u,i,k,m,l,o,?_⟩;rw[<-p,List.take_take];congr 1;omega
end
section
variable{a0:aw}{aA y:a5}{p:Nat}{cU:bJ}{dW:dd}{cE:List ad}{av:Nat}{v fV:ay}{z xC:ad}
def ho.field(b7:ho a0 aA y p cU dW cE)(l:av<j cE)(f:dW[av]?=H v)(LY:aS (p::a0) (x aA.heap) y 3 1 fV (b5 xC))(m:∀(a:Nat)d,av≠a->dW[a]?=H d->∀e,e∈aF fV->e∉aF d):ho a0 aA (bZ y (bl p av) fV) p cU (dW.set av fV) (cE.set av xC):=by
 have Bu:=(tL.1 f).1;have d:∀{b:ay}{c:ad},aS (p::a0) (x aA.heap) y 3 1 b (b5 c)->aS (p::a0) (x aA.heap) (bZ y (bl p av) fV) 3 1 b (b5 c):=λa=>a.a9 ((aj.setCell (aN a8) _:F [p] y (bZ y (bl p av) fV))) a4;refine⟨?_,?_,?_,?_,b7.a9.setCell (bk b7.fK) _,b7.fK⟩;.rw[fJ b7.cF];simp
 .intro a e f b c;by_cases l:av=a;(.grind);.rw[ob l]at b c;exact d<|b7.ae a e f b c
 .intro cL k cQ bH GQ NB kP rE g tr Dl;rw[kn]at NB;by_cases a:av=cL;(.grind);.rw[ob a]at kP;by_cases M0:av=k;(.grind);. exact a22
 .intro a b kP g tr;rw[yR];by_cases GR:av=a;(. exact a23);.rw[ob GR]at kP;exact b7.p3 a b kP g tr
def ho.put{b n dp:Nat}(a:ho a0 aA y p cU dW cE)(s:av<j cE)(h:dW[av]?=H (q (aZ b 0) n dp))(u:cE[av]?=H z)(c:Nat)(d:Int):ho a0 aA (bZ y (bl b c)<|ah d) p cU dW (cE.set av<|z.set c d):=by
 have k:=a.ae av _ z h u;have l:b∈aF (q (aZ b 0) n dp):=ie;refine⟨?_,?_,λv x A B C D=>a.dY v x A B C (by simpa using D),λE I J K L=>by rw[yR];exact a.p3 E I J K L,a.a9.setCell (bk (k.lt b l).1) _,a.fK⟩;.have:=a.cF;exact(((aj.setCell (aN a8) _:F [b] y (bZ y (bl b c)<|ah d))).block p a.lt (by simpa using((λdb=>k.dY b l nu:p≠b)))).trans this
 .intro m o M f g;by_cases r:av=m;(.subst r;rw[vq s]at g;rw[h]at f;cases f;cases g;exact k.zK c d);.rw[ob r]at g;have t:=a.ae m o M f g;have S:b∉aF o:=a.dY av m _ o r s h f b l;have N:F [b] y (bZ y (bl b c)<|ah d):=aj.setCell (aN a8) _;refine(aS.a9 (a0:=b::p::a0) (t.aI λO P Q=>?_) N a4).tail;rcases eu.1 Q with rfl|R;(.grind);.exact t.dY O P R
end
structure bQ(a0:aw)(y bL:a5):Prop where
 b:∀g,g∈a0->bL.heap[g]?=y.heap[g]?
 z:x y.heap<=x bL.heap
def bQ.refl(b:aw)(a:a5):bQ b a a:=⟨λ_ _=>u,zo _⟩
theorem bQ.trans{a:a5}(b:bQ w i P)(c:bQ w P a):bQ w i a:=⟨λa d=>(c.b a d).trans<|b.b a d,cA b.z c.z⟩
def bQ.less{a:aw}(b:bQ w i P)(d:∀c,c∈a->c∈w):bQ a i P:=⟨λa c=>b.b a<|d a c,b.z⟩
theorem bQ.dS(a:F [] i P)(c:∀b,b∈w->b<i.heap.size):bQ w i P:=⟨λb d=>a.block b (c b d) a8,a.size⟩
def bQ.cell(b:bQ w i P)(c:aW i e J K)(d:e∈w):aW P e J K:=(yS (a:=bl e J)<|b.b e d).trans c
structure jb(a0:aw)(aA y:a5)(p:Nat)(l:bz)(aG:ad)(dW:dd):Prop where
 g:ho a0 aA y p 96 dW [l.ao,l.ae,l.cY,l.cI,l.d9,l.bK,aG]
 kS:p∉a0
 lt:∀g,g∈a0->g<x y.heap
def et(a:aw)(b c:a5)(d:Nat)(e:bz)(f:ad):Prop:=∃g h i j k l m,jb a b c d e f [g,h,i,j,k,l,m]
theorem jb.I{y:a5}{b:dd}(a:jb w i y e X L b)(c:F [] y P):jb w i P e X L b:=⟨a.g.I c,a.kS,λb d=>ft (a.lt b d) c.size⟩
theorem et.I{y:a5}(a:et w i y e X L)(b:F [] y P):et w i P e X L:=by
 obtain⟨c,d,e,f,g,h,i,j⟩:=a;exact⟨c,d,e,f,g,h,i,j.I b⟩
theorem et.a9{a0:aw}{y:a5}(a:et a0 i y e X L):F [] i y:=by
 obtain⟨c,c,c,c,c,c,c,b⟩:=a;exact b.g.a9
theorem et.lt{a0:aw}(b:et a0 i P e X L):∀a,a∈a0->a<x P.heap:=by
 obtain⟨c,c,c,c,c,c,c,a⟩:=b;exact a.lt
def ho.more{m:aw}{wx:a5}{n:dd}{o:List ad}(b:ho w i P e T n o)(p:F [] P wx)(q:∀h,h∈m->h∈w\/x P.heap<=h):ho m i wx e T n o:=by
 have a:=b.I p;refine⟨a.cF,λc d j f k=>(a.ae c d j f k).aI λg l r=>?_,a.dY,a.p3,a.a9,a.fK⟩;rcases eu.1 r with rfl|s;.exact(b.ae c d j f k).dY g l a8
 .rcases q g s with a|a;(.exact(b.ae c d j f k).dY g l<|hF _ a);.have:=b.p3 c d f g l;omega
theorem jb.more{c:aw}{wx:a5}{d:dd}(a:jb w i P e X L d)(f:F [] P wx)(g:∀b,b∈c->b∈w\/(x P.heap<=b/\b<x wx.heap)):jb c i wx e X L d:=by
 refine⟨a.g.more f a4,λd=>?_,λc h=>?_⟩;.rcases g e d with b|b;(.exact a.kS b);.have:=a.g.lt;omega
 .rcases g c h with b|b;(.have:=a.lt c b;have:=f.size;omega);.exact b.2
theorem et.more{b:aw}{wx:a5}(c:et w i P e X L)(d:F [] P wx)(f:∀a,a∈b->a∈w\/(x P.heap<=a/\a<x wx.heap)):et b i wx e X L:=by
 obtain⟨a,b,e,g,h,i,j,k⟩:=c;exact⟨a,b,e,g,h,i,j,k.more d f⟩
def et.less{a:aw}(c:et w i P e X L)(b:∀b,b∈a->b∈w):et a i P e X L:=c.more aj a4
def eN(b:aw)(c d:a5)(f:Nat)(g:ad)(h:Option bz)(e:Ending)(a:a5):Prop:=match h with|G=>e=bd (.bool false)/\F [] c a/\bQ b d a|H h=>e=bd (.bool true)/\et b c a f h g/\bQ b d a
def eN.no{a:a5}{b:Option bz}(b7:b=G)(eb:F [] i a)(ce:bQ w P a):eN w i P e L b (bd<|.bool false) a:=M3
def eN.yes{a:a5}{b:Option bz}{l:bz}(b7:b=H l)(eb:et w i a e l L)(ce:bQ w P a):eN w i P e L b (bd<|.bool true) a:=M3
theorem jb.put{mj:bz}{f:dd}{av b n dp:Nat}{z:ad}(a:jb w i P e X L f)(s:av<7)(h:f[av]?=H (q (aZ b 0) n dp))(j:[X.ao,X.ae,X.cY,X.cI,X.d9,X.bK,L][av]?=H z)(c:Nat)(d:Int)(o:[mj.ao,mj.ae,mj.cY,mj.cI,mj.d9,mj.bK,L]=[X.ao,X.ae,X.cY,X.cI,X.d9,X.bK,L].set av (z.set c d)):jb w i (bZ P (bl b c)<|ah d) e mj L f/\bQ w P (bZ P (bl b c)<|ah d):=by
 have k:=a.g.put a4 h j c d;rw[<-o]at k;refine⟨⟨k,a.kS,λp r=>by rw[yR];exact a.lt p r⟩,λg l=>?_,a8⟩;refine((aj.setCell (aN a8) _:F [b] P (bZ P (bl b c)<|ah d))).block g (a.lt g l) λm=>?_;simp at m;subst m;exact(a.g.ae av _ z h j).dY g ie<|hF _ l
def jS{a b c d f:ay}(g:i.heap[e]?=H (au #[K,S,a,b,c,d,f] T (0,0)))(a:Nat):i.frozen? (bl e a)=false:=nA i e a _ T g
section
variable{c2:Array Oper}{jB:List Oper}{o:Oper}{a:Act}{d8:Exit->Act->a5->Prop}{a0:aw}{aA y wx:a5}{p:Nat}{cU:bJ}{dW:dd}{cE:List ad}{av:Nat}{v:ay}{z:ad}
def vs(L:o.guard=G)(m n:Operand)(M:o.op= .call {callee:= .builtin .append,args:= #[m,n],argTypes:= #[34,34]})(c:Int)(d:ho a0 aA y p cU dW cE)(r:F [] y wx)(N:av<j cE)(A:dW[av]?=H v)(B:cE[av]?=H z)(O:∀C,C∈a0->C<x y.heap)(Y:p∉a0)(Z:j z<=1073741824)(P:a.eval m=v)(R:a.eval n=q (aZ e 0) 1 1)(S:x wx.heap=e)(U:∀g h k,k.heap[p]?=H (au dW.toArray cU (0,0))->ho a0 aA (bZ k (bl p av)<|q g (j z+1) h) p cU (dW.set av<|q g (j z+1) h) (cE.set av<|z++[c])->bQ a0 y (bZ k (bl p av)<|q g (j z+1) h)->wpList aK c2 d8 jB (a.put o.dst<|q g (j z+1) h) k):wpList aK c2 d8 (o::jB) a (aX wx<|au #[ah c] 3):=by
 subst S;have a1:=r.size;have V:=d.lt;have l:=d.ae av v z A B;have b:F [] y (aX wx<|au #[ah c] 3):=r.alloc _;have D:∀E,E∈p::a0->E<x wx.heap:=λa2 a3=>a4;refine k8 L m n _ M (p::a0) (x aA.heap) 3 (ah 0) 1 8 vy eT u bf v (b5 z) P (l.I b) (q (bR wx 0) 1 1) (b5 [c]) R (a7.new (bx:=b5 [c]) (iS _) ⟨u,bu⟩ (qJ (l.I r) D) te) (iS _) uX uX (by have:=d.a9.size;simp;omega) (λW X=>by have:=D W X;simp;omega) ?_;intro a5 s t f;rw[pF]at t;obtain⟨I,J,K⟩:=t.cq;rw[cN,eR]at K;subst K;refine U I J s ?_ (d.push b N A B t f) ⟨λc e=>?_,by have g:=f.a9.size;have g:=b.size;rw[yR];omega⟩;.have g:p∉aF v:=λh=>l.dY p h a8;exact(f.a9.block p (by have:=b.size;omega) g).trans<|(b.block p V a8).trans d.cF
 have d:=O c e;have g:F [p] s (bZ s (bl p av)<|q I (j z+1) J):=aj.setCell (aN a8) _;exact(g.block c (by have:=f.a9.size;have:=b.size;omega) a4).trans<|(f.a9.block c (by have:=b.size;omega) (λf=>l.dY c f<|hF _ e)).trans<|b.block c d a8
end
def DG(d b:a5)(c:Nat)(a:bz)(e:ad)(n o p:Int)(g:et w d b c a e)(B:j a.ao<=1073741824)(C:j a.ae<=1073741824)(E:j a.cY<=1073741824)(F:j a.cI<=1073741824)(G:j a.d9<=1073741824)(H:j a.bK<=1073741824):aQ aK 122 #[f3 c 0,ah n,ah o,ah p] b λh f=>h=bd (.tuple #[])/\et w d f c (a.grow n o p) e/\bQ w b f:=by
 obtain⟨b,I,J,K,L,M,b,m⟩:=g;obtain⟨N,b,c⟩:=bb m.g m.kS m.lt;obtain⟨d,e,f,g,h,k,l⟩:=ei m.g.cF;clear m;go_enter func122,ntmps122;go_wp2_with(first|(at_builtin;refine vs u _ _ u n N aj (av:=0) a8 u u c b B u u a8 ?_;intro m m m m y D;have q:=A D;obtain⟨O,P⟩:=aq (λa0 a1=>ft (c a0 a1) q.z) y;obtain⟨d,e,f,g,h,k,l⟩:=ei m;have a0:=jS m 0;clear m y D)|(at_builtin;refine vs u _ _ u o P aj (av:=1) (v:=I) (z:=a.ae) a8 u u O b C u u a8 ?_;intro m m m m y D;have r:=A<|q.trans D;obtain⟨Q,R⟩:=aq (λa0 a1=>ft (c a0 a1) r.z) y;obtain⟨d,e,f,g,h,k,l⟩:=ei m;have a0:=jS m 1;clear m y D)|(at_builtin;refine vs u _ _ u p R aj (av:=2) (v:=J) (z:=a.cY) a8 u u Q b E u u a8 ?_;intro m m m m y D;have s:=A<|r.trans D;obtain⟨S,T⟩:=aq (λa0 a1=>ft (c a0 a1) s.z) y;obtain⟨d,e,f,g,h,k,l⟩:=ei m;have a0:=jS m 2;clear m y D)|(at_builtin;refine vs u _ _ u (-1) T aj (av:=3) (v:=K) (z:=a.cI) a8 u u S b F u u a8 ?_;intro m m m m y D;have t:=A<|s.trans D;obtain⟨U,V⟩:=aq (λa0 a1=>ft (c a0 a1) t.z) y;obtain⟨d,e,f,g,h,k,l⟩:=ei m;have a0:=jS m 3;clear m y D)|(at_builtin;refine vs u _ _ u (-1) V aj (av:=4) (v:=L) (z:=a.d9) a8 u u U b G u u a8 ?_;intro m m m m y D;have w:=A<|t.trans D;obtain⟨W,X⟩:=aq (λa0 a1=>ft (c a0 a1) w.z) y;obtain⟨d,e,f,g,h,k,l⟩:=ei m;have a0:=jS m 4;clear m y D)|(at_builtin;refine vs u _ _ u (-1) X aj (av:=5) (v:=M) (z:=a.bK) a8 u u W b H u u a8 ?_;intro m m m m y D;have x:=A<|w.trans D;obtain⟨Y,Z⟩:=aq (λa0 a1=>ft (c a0 a1) x.z) y;obtain⟨d,e,f,g,h,k,l⟩:=ei m;have a0:=jS m 5;clear m y D));go_end0;exact⟨u,⟨_,_,_,_,_,_,_,Z,b,Y⟩,x⟩
def DH(n d:a5)(e:Nat)(a:bz)(o:ad)(c:Nat)(v:et w n d e a o)(h:c<j a.ae)(p:dN a.ae 1099511627776):aQ aK 123 #[f3 e 0,ah c] d (λx q=>eN w n d e o ((dh a.ae c).map λy=>{a with ae:=y}) x q/\q.heap[e]?=d.heap[e]?):=by
 obtain⟨K,B,L,M,N,O,P,f⟩:=v;obtain⟨Q,R,S,T,U,V,W⟩:=ei f.g.cF;obtain⟨g,X,rfl,Y,Z,a0,a1⟩:=(f.g.ae 1 B a.ae u u).gg h;have k:=A (λr=>f.put (mj:={a with ae:=a.ae.set c r}) (av:=1) a8 u u c r u);have a2:=p _<|dM h;obtain⟨s,C,D⟩:=bb (by simp only[dh,kF,h4,hu h,y6];split<;>rfl:((dh a.ae c).map λE=>{a with ae:=E})=if a.ae[c]<1 then G else H {a with ae:=a.ae.set c (a.ae[c]- 1)}) f.g.a9 (λ(t:ay)=>show(bZ d (bl g c) t).drew.heap[e]?=d.heap[e]? from(aj.setCell (aN a8) _:F [g] d (bZ d (bl g c) t)).block e f.g.lt (λa3=>(f.g.ae 1 _ a.ae u u).dY g ie a4));clear f p;generalize a.ae[c]=f at*;generalize((dh a.ae c).map λJ=>{a with ae:=J})=a6 at*;by_cases d:f<1;.go_enter Gy,Gz;go_wp2;go_ret;exact⟨eN.no (by rw[s.h,dz d]) C<|bQ.refl _ _,u⟩
 .go_enter Gy,Gz;go_wp2;go_region;all_goals go_wp2;go_ret;exact⟨eN.yes (l:={a with ae:=a.ae.set c (f - 1)}) (by rw[s.h];exact ND m) ⟨_,_,_,_,_,_,_,(k<|f - 1).1.I aj.drew⟩ ⟨(k<|f - 1).2.b,(k<|f - 1).2.z⟩,D _⟩
end
section
variable{a0:aw}{y wx bL:a5}{b9 DK:Nat}{E:bJ}{cg:Nat}{cQ v:ay}{bx:List cn}
def aS.beside(b:aS (aF v++a0) DK y E cg cQ bx)(c:F (aF v) y bL)(a:∀a,a∈aF K->a∈aF v\/x y.heap<=a):aS (aF K++a0) DK bL E cg cQ bx:=by
 refine(((b.sub a4:aS (aF K++(aF v++a0)) DK y E cg cQ bx)).a9 c a4).sub λa a=>aN ?_;rcases cK.1 a with b|b;.grind
 .grind
def DL{a:D}(c:a7 (aF v++a0) y a K)(d:F (aF v) y bL)(b:∀b,b∈aF S->b∈aF v\/x y.heap<=b):a7 (aF S++a0) bL a K:=by
 refine(((c.sub a4:a7 (aF S++(aF v++a0)) y a K)).a9 d a4).sub λa a=>aN ?_;rcases cK.1 a with b|b;.grind
 .grind
def so{a:aw}(b7:aS a b9 y E cg cQ bx)(b:∀a,a∈a0->a<x y.heap):∀a,a∈aF cQ++a0->a<x y.heap:=λg aL=>a24
def Jo{a:D}(b:a7 (aF cQ++(aF v++a0)) y a K):a7 (aF v++(aF cQ++a0)) y a K:=b.sub a4
def aS.bm{wr:a5}(a:aS a0 (x i.heap) wr E cg v bx)(b:F [] i wx)(c:F (aF v) wx bL):F [] i bL:=b.trans c λb c=>bk (a.lt b c).1
end
section
variable{bD:Program}{c2:Array Oper}{jB:List Oper}{o:Oper}{a:Act}{d8:Exit->Act->a5->Prop}{wx:a5}
structure mV(a0:aw)(b9:Nat)(wx bL:a5)(E:bJ)(cg:Nat)(eO fV:ay)(bx:List cn):Prop where
 ae:aS a0 b9 bL E cg fV bx
 a9:F (aF eO) wx bL
 dJ:∀g,g∈aF fV->g∈aF eO\/x wx.heap<=g
def g2(B:o.guard=G)(n p:Operand)(i:bJ)(C:o.op= .call {callee:= .builtin .append,args:= #[n,p],argTypes:= #[i,i]})(d:aw)(l:Nat)(b:bJ)(r:ay)(c s:Nat)(D:bD.underlying i=H (.slice b))(E:(bD.info? b).map (λu=>(u.zero,u.size,u.bytes))=H (H r,c,s))(I:r.cells.size=c)(J:0<c)(eO:ay)(m:List cn)(v:aS d l wx b c eO m)(f:Nat)(K:j m=f)(t:Array ay)(h:cn)(R:j h=c)(S:cu (aF eO++d) wx h t.toList)(fD:∀w,w∈d->w<x wx.heap)(T:l<=x wx.heap)(U:(f+1)*s<=140737488355328)(V:f+1<=140737488355328)(L:a.eval n=eO)(N:a.eval p=q (aZ e 0) 1 1)(O:x wx.heap=e)(k:∀y z A,mV d l wx A b c eO (q y (f+1) z) (m++[h])->wpList bD c2 d8 jB (a.put o.dst<|q y (f+1) z) A):wpList bD c2 d8 (o::jB) a (aX wx<|au t b):=by
 subst O K;have zL:F [] wx (aX wx<|au t b):=aj.alloc _;refine k8 B n p i C d l b r c s D E I J eO m L (v.I zL) (q (bR wx 0) 1 1) [h] N (a7.new (bx:=[h]) a4 a4 (qJ v fD) a8) a4 a4 a4 aB (λg aL=>Jp) ?_;exact RB
def vt(B:o.guard=G)(p r:Operand)(l:bJ)(C:o.op= .call {callee:= .builtin .append,args:= #[p,r],argTypes:= #[l,l]})(c:aw)(m:Nat)(d:bJ)(s:ay)(b t:Nat)(D:bD.underlying l=H (.slice d))(E:(bD.info? d).map (λv=>(v.zero,v.size,v.bytes))=H (H s,b,t))(F:s.cells.size=b)(I:0<b)(e:ay)(n:List cn)(J:aS c m wx d b e n)(f h:Nat)(K:j n=f)(u:ay)(i:List cn)(L:j i=h)(M:a7 (aF e++c) wx (.arr b i) u)(N:∀W∈i,j W=b)(O:∀w,w∈c->w<x wx.heap)(R:m<=x wx.heap)(S:(f+h)*t<=140737488355328)(T:f+h<=140737488355328)(U:a.eval p=e)(V:a.eval r=u)(k:∀y z A,mV c m wx A d b e (q y (f+h) z) (n++i)->wpList bD c2 d8 jB (a.put o.dst<|q y (f+h) z) A):wpList bD c2 d8 (o::jB) a wx:=by
 subst K L;refine k8 B p r l C c m d s b t D E F I e n U J u i V M N S T R O ?_;exact RC
def jc{v:Act->a5->Prop}{C:Prop}(D:o.guard=G)(n p:Operand)(i:bJ)(E:o.op= .call {callee:= .builtin .append,args:= #[n,p],argTypes:= #[i,i]})(d:aw)(l:Nat)(b:bJ)(r:ay)(c s:Nat)(I:bD.underlying i=H (.slice b))(J:(bD.info? b).map (λu=>(u.zero,u.size,u.bytes))=H (H r,c,s))(K:r.cells.size=c)(L:0<c)(eO:ay)(m:List cn)(w:aS d l wx b c eO m)(f:Nat)(N:j m=f)(t:Array ay)(h:cn)(T:j h=c)(U:cu (aF eO++d) wx h t.toList)(fD:∀y,y∈d->y<x wx.heap)(V:l<=x wx.heap)(W:(f+1)*s<=140737488355328)(X:f+1<=140737488355328)(O:a.eval n=eO)(R:a.eval p=q (aZ e 0) 1 1)(S:x wx.heap=e)(k:∀z A B,mV d l wx B b c eO (q z (f+1) A) (m++[h])->v (a.put o.dst<|q z (f+1) A) B):if Region.wanted o (yielded c2 a.tmps)=true then Oper.wp bD o a (aX wx<|au t b) v d8 else C:=by
 subst S N;have zL:F [] wx (aX wx<|au t b):=aj.alloc _;refine step_append D n p i E d l b r c s I J K L eO m O (w.I zL) (q (bR wx 0) 1 1) [h] R (a7.new (bx:=[h]) a4 a4 (qJ w fD) a8) a4 a4 a4 aB (λg aL=>Jp) ?_;exact RB
def Jq{w:Act->a5->Prop}{C:Prop}(D:o.guard=G)(p r:Operand)(l:bJ)(E:o.op= .call {callee:= .builtin .append,args:= #[p,r],argTypes:= #[l,l]})(c:aw)(m:Nat)(d:bJ)(s:ay)(b t:Nat)(F:bD.underlying l=H (.slice d))(I:(bD.info? d).map (λv=>(v.zero,v.size,v.bytes))=H (H s,b,t))(J:s.cells.size=b)(K:0<b)(e:ay)(n:List cn)(L:aS c m wx d b e n)(f h:Nat)(M:j n=f)(u:ay)(i:List cn)(N:j i=h)(O:a7 (aF e++c) wx (.arr b i) u)(R:∀Y∈i,j Y=b)(S:∀y,y∈c->y<x wx.heap)(T:m<=x wx.heap)(U:(f+h)*t<=140737488355328)(V:f+h<=140737488355328)(W:a.eval p=e)(X:a.eval r=u)(k:∀z A B,mV c m wx B d b e (q z (f+h) A) (n++i)->w (a.put o.dst<|q z (f+h) A) B):if Region.wanted o (yielded c2 a.tmps)=true then Oper.wp bD o a wx w d8 else C:=by
 subst M N;refine step_append D p r l E c m d s b t F I J K e n W L u i X O R U V T S ?_;exact RC
end
theorem mV.bm{wx:a5}{a b:List cn}(c:mV w (x i.heap) wx P T e K S b)(b:aS w (x i.heap) wx T e K a)(a:F [] i wx):F [] i P:=b.bm a c.a9
def lk:(prog.info? 47).map (λa=>(a.zero,a.size,a.bytes))=H (H (aO #[ah 0,ah 0,ah 0,q G 0 0,q G 0 0]),5,72):=cB
def xD:(prog.info? 38).map (λa=>(a.zero,a.size,a.bytes))=H (H (aO #[q G 0 0,ah 0]),2,32):=cB
def r6:(prog.info? 40).map (λa=>(a.zero,a.size,a.bytes))=H (H (aO #[q G 0 0,q G 0 0,ah 0,q G 0 0,ah 0]),5,88):=cB
def ih.enc{a:b6}(b:ds w i a R e Y J):cu w i (dR a) [ah a.af,ah a.an,ah a.b1,q R (j a.am) e,q Y (j a.a6) J]:=by
 rw[z1];exact⟨u,u,u,b.a,b.k,bu⟩
def aS.new1{bv:aw}(a:aS w e i T 1 K (b5 L))(c:∀b,b∈bv->b<e):aS bv e i T 1 K (b5 L):=a.aI λb d e=>by have:=(a.lt b d).1;have:=c b e;omega
structure ej where
 E:bJ
 cg:Nat
 v:ay
 bx:List cn
def dt:List ej->aw|[]=>[]|a::b=>aF a.v++dt b
theorem kT:∀{l:List ej},e∈dt l↔∃a∈l,e∈aF a.v|[]=>by simp[dt]|b::a=>by simp[dt,kT (l:=a)]
def tN{a:List ej}:e∈dt (a.eraseIdx J)↔∃b c,b≠J/\a[b]?=H c/\e∈aF c.v:=by grind[kT,List.mem_eraseIdx_iff_getElem?]
def dw(d:aw)(e:Nat)(f:a5)(b:List ej):Prop:=∀(c:Nat)(a:ej),b[c]?=H a->aS (dt (b.eraseIdx c)++d) e f a.E a.cg a.v a.bx
section
variable{a0:aw}{b9:Nat}{y fI wx bL:a5}{l:List ej}
theorem dw.I(a:dw a0 b9 y l)(b:F [] y bL):dw a0 b9 bL l:=λc d e=>(a c d e).I b
theorem dw.nil(a:aw)(b:Nat)(c:a5):dw a b c []:=λa a a=>a4
def dw.at(c:dw a0 b9 y l)(b:Nat){a:ej}(d:l[b]?=H a):aS (dt (l.eraseIdx b)++a0) b9 y a.E a.cg a.v a.bx:=c b a d
theorem dw.lt(b:dw a0 b9 y l):∀a,a∈dt l->b9<=a/\a<x y.heap:=λc d=>by obtain⟨i,e,f⟩:=kT.1 d;obtain⟨g,h,rfl⟩:=md e;exact(b g _<|hu h).lt c f
def dw.q2(b7:dw a0 b9 y l)(a:∀a,a∈a0->a<x y.heap):∀a,a∈dt l++a0->a<x y.heap:=λg aL=>a24
def dw.p4(b:dw a0 b9 y l)(c:Nat)(a:∀a,a∈a0->a<x y.heap):∀a,a∈dt (l.eraseIdx c)++a0->a<x y.heap:=λc d=>by rcases cK.1 d with a|a;(.obtain⟨e,f,_,g,h⟩:=tN.1 a;exact((b e f g).lt c h).2);.grind
theorem dw.set(f:dw a0 b9 fI l){av:Nat}{a jT:ej}(d:l[av]?=H a){wx:a5}(g:F [] fI wx)(h:F (aF a.v) wx i)(j:∀b,b∈aF jT.v->b∈aF a.v\/x fI.heap<=b)(c:aS (dt (l.eraseIdx av)++a0) b9 i jT.E jT.cg jT.v jT.bx):dw a0 b9 i (l.set av jT):=by
 intro c i e;by_cases b:av=c;.grind
 .rw[ob b]at e;(have k:=(f c i e).sub λe f=>by rcases cK.1 f with c|c;(.exact(j e c).imp (λe=>hs _<|tN.2 ⟨av,a,b,d,e⟩) id);.exact aN c);refine((k.I g).a9 h λc c=>aN<|gO _<|hs _<|tN.2 ⟨av,a,b,d,c⟩).sub λa d=>aN ?_;rcases cK.1 d with a|a;(.obtain⟨b,e,f,c,h⟩:=tN.1 a;by_cases a:av=b;(.grind);.rw[ob a]at c;exact gO _<|hs _<|tN.2 ⟨b,e,f,c,h⟩);.grind
def dw.push(d:dw a0 b9 fI l)(b:F [] fI wx){av:Nat}{f c:List cn}(g:l[av]?=H ⟨T,e,K,f⟩)(a:mV (dt (l.eraseIdx av)++a0) b9 wx bL T e K S c):dw a0 b9 bL (l.set av ⟨T,e,S,c⟩):=d.set g b a.a9 (λc d=>(a.dJ c d).imp id λc=>cA b.size c) a.ae
def dw.snoc(d:dw a0 b9 fI l)(f:F [] fI bL){a:List cn}(b:aS (dt l++a0) b9 bL T e K a)(b:∀b,b∈aF K->x fI.heap<=b):dw a0 b9 bL (l++[⟨T,e,K,a⟩]):=by
 intro b e c;rcases dE b (j l)with a|a;.rw[td a]at c;rw[RD a];refine((d b e c).sub λa b=>?_).I f;rcases cK.1 b with a|a;(.obtain⟨p,c,aL⟩:=kT.1 a;rcases cK.1 c with sp|sp;(. exact Jr);.grind);.grind
 .grind
def dw.one{a:List cn}(d:aS a0 b9 y T e K a):dw a0 b9 y [⟨T,e,K,a⟩]:=by
 intro b f c;cases b with|zero=>grind[dt]|succ g=>simp at c
def dw.Js(d:dw a0 b9 y l)(f:∀a,a∈a0->a<x y.heap)(a:Nat){b:ej}(g:l[a]?=H b):∀c,c∈aF b.v++(dt (l.eraseIdx a)++a0)->c<x y.heap:=λe h=>by rcases cK.1 h with c|c;(.exact((d a b g).lt e c).2);.exact d.p4 a f e c
def dw.dX{b:aw}(c:dw a0 b9 y l)(d:F b y bL)(a:∀a,a∈b->a∈a0\/x y.heap<=a):dw a0 b9 bL l:=λa b e=>(c a b e).a9 d a4
theorem dw.dF{oB:Nat}(a:dw a0 b9 y l)(b:oB<=b9):dw a0 oB y l:=λc d e=>(a c d e).dF b
def dw.aI{bv:aw}{bH:ad}{cj:a5}(b:dw a0 b9 fI l)(e:∀d,d∈a0->d<x fI.heap)(f:b9<=x fI.heap)(a:F [] fI cj)(g:F [] cj bL)(c:aS bv (x cj.heap) bL T 1 K (b5 bH)):dw a0 b9 bL (l++[⟨T,1,K,b5 bH⟩]):=b.snoc (a.aa g) ((c.new1 λd g=>ft (b.q2 e d g) a.size).dF<|cA f a.size) λb d=>cA a.size (c.lt b d).1
def dw.RE(b:dw a0 b9 fI l)(d:∀a,a∈a0->a<x fI.heap)(f:b9<=x fI.heap){a:ej}(g:l[e]?=H a)(a:F [] fI i)(h:F [] i bL)(c:aS w (x i.heap) bL T 1 K (b5 L)):dw a0 b9 bL (l.set e ⟨T,1,K,b5 L⟩):=b.set g (a.aa h) ((F.refl [] bL).ca) (λg h=>bk<|cA a.size (c.lt g h).1)<|(c.new1 λc g=>ft (b.p4 e d c g) a.size).dF<|cA f a.size
def dw.erase(d:dw a0 b9 y l)(b:Nat):dw a0 b9 y (l.eraseIdx b):=by
 intro a c e;rw[List.getElem?_eraseIdx]at e;refine(d _ c<|(a4:l[if a<b then a else a+1]?=H c)).sub λc e=>aN ?_;rcases cK.1 e with c|c;.obtain⟨f,d,g,h,i⟩:=tN.1 c;obtain⟨j,c,k⟩:=((λc c c c=>a4:∀c,c≠a->∀e,(l.eraseIdx b)[c]?=H e->∃c,(if a<b then a else a+1)≠c/\l[c]?=H e)) f g d h;exact hs _<|tN.2 ⟨j,d,a4,k,i⟩
 .grind
theorem dw.sub{bv:aw}(b:dw a0 b9 y l)(a:∀a,a∈bv->a∈a0\/x y.heap<=a):dw bv b9 y l:=λa c d=>(b a c d).sub a4
end
def q3(a:ad)(b:Int):b5 (a++[b])=b5 a++[[.int b]]:=te
theorem e3.sq:∀(a:List cn)(k b:Nat),e3 w i e J a b->e3 w i e J (a.take k) b|[],a,b,c=>a4|a::b,0,c,d=>by simp[e3]|d::b,c+1,e,a=>by simp only[e3,jU]at a⊢;exact⟨a.1,a.2.1,e3.sq b c _ a.2.2⟩
theorem e3.vu:∀(a:List cn)(k b:Nat),e3 w i e J a b->e3 w i e J (a.drop k) (b+k*e)|[],a,b,c=>by simp[e3]|a::b,0,c,d=>a4|f::d,a+1,b,c=>by simp only[e3]at c;have:=e3.vu d a _ c.2.2;rw[Jt];rwa [show b+(a+1)*e=b+e+a*e by rw[tp];omega]
theorem a7.sq{a:List cn}(b:a7 w i (.arr e a) (q R J Q)){k c:Nat}(d:k<=j a)(f:k<=c)(g:c<=9223372036854775807):a7 w i (.arr e<|a.take k) (q R k c):=by grind[a7,e3.sq]
theorem a7.vu{a:List cn}{b:Nat}(d:a7 w i (.arr e a) (q (H ⟨J,Q,Option.none⟩) V b)){k c:Nat}(f:k<=j a)(g:j a - k<=c)(h:c<=9223372036854775807):a7 w i (.arr e<|a.drop k) (q (H ⟨J,Q+k*e,Option.none⟩) (j a - k) c):=by grind[a7,e3.vu]
end Go.Proofs.YtfekcilkpafpjaaGreat
