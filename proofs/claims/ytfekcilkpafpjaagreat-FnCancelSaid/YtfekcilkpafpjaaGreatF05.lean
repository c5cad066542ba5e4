/- A part. -/
import Derived.Test.YtfekcilkpafpjaaGreatF03
import Derived.Deep.DeepCutAuto
open Array renaming size->x
open Go renaming Calls->aR
open Go.Calls renaming mono->ad
open Go.Ending renaming returned->bg
open Go.IntKind renaming i64->B
open Go.Obj renaming cells->au
open Go.Value renaming int->C,pointer->cc,slice->q,agg->aO
open Go.World renaming cell?->ax,drewN->gg,alloc->aY,setCell->bX
open Int renaming toNat->bw
open List renaming length->j,range->aQ,getD->aP
open Option renaming none->F,some->G
open Or renaming inl->aM,inr->bj
namespace Go.Proofs.YtfekcilkpafpjaaGreat
open Go.RowKit
open Tryz renaming prog->aK
open Tryz
set_option maxRecDepth 100000
set_option maxHeartbeats 25600000
set_option linter.all false
variable{N Y:Int}{J Q V e:Nat}{P i:a5}{M:aH}{L X:ab}{w:aw}{K S:ay}{R Z:az}{O:b3}{T:bJ}{W:br}
def mq(b:a5)(a:Nat)(c d:ay):a5:=(bX b (bs a 0) c).setCell (bs a 1) d
def H.eo(a:a5)(b:Nat)(c d:ay):H [b] a (mq a b c d):=(ap.setCell (aM a8) _).setCell (aM a8) _
def re{a b:ay}(c:i.heap[e]?=G (au #[K,S] T (0,0))):(mq i e a b).heap[e]?=G (au #[a,b] T (0,0)):=by simp[mq,World.setCell,Dr,c]
def b8{A:a5}{b:Nat}(b2:A.heap[b]?=G (au #[K,S] T (0,0))):(ax A ⟨b,0,F⟩=G K/\ax A ⟨b,1,F⟩=G S)/\(A.frozen? ⟨b,0,F⟩=false/\A.frozen? ⟨b,1,F⟩=false):=by
 refine⟨⟨?_,?_⟩,?_,?_⟩;. exact xC
 . exact zM
 all_goals simp[World.frozen?,b2]
def su(a:a5)(c d:ay)(e:bJ):∃b,b=aY a (au #[c,d] e)/\aj (H [] a b)/\ax b ⟨x a.heap,0,F⟩=G c/\ax b ⟨x a.heap,1,F⟩=G d:=⟨_,u,y<|ap.alloc _,(b8<|dD a _).1⟩
def sv{A:a5}{b:Nat}{a c:ay}(b2:A.heap[b]?=G (au #[K,S,a,c] T (0,0))):(ax A ⟨b,0,F⟩=G K/\ax A ⟨b,1,F⟩=G S/\ax A ⟨b,2,F⟩=G a/\ax A ⟨b,3,F⟩=G c)/\(A.frozen? ⟨b,0,F⟩=false/\A.frozen? ⟨b,1,F⟩=false/\A.frozen? ⟨b,2,F⟩=false/\A.frozen? ⟨b,3,F⟩=false):=by
 refine⟨⟨?_,?_,?_,?_⟩,?_,?_,?_,?_⟩;. exact xC
 . exact zM
 .rw[j7 A b 2 _ _ _ b2];rfl
 .rw[j7 A b 3 _ _ _ b2];rfl
 all_goals simp[World.frozen?,b2]
def fl{a:Array ay}{av:Nat}{cG:ay}(b:i.heap[e]?=G (au a T (0,0))):(bX i (bs e av) cG).heap[e]?=G (au (a.setIfInBounds av cG) T (0,0)):=by simp[World.setCell,Dr,b]
structure dv(A wx:a5)(gM b9:Array ay)(cX mL:bJ):Prop where
 a9:H [] A wx
 size:x wx.heap=x A.heap+2
 d4:wx.heap[x A.heap]?=G (au gM cX (0,0))
 cA:wx.heap[x A.heap+1]?=G (au b9 mL (0,0))
theorem dv.mk'(a:a5)(b c:Array ay)(d e:bJ):dv a ((aY a<|au b d).alloc<|au c e) b c d e:=⟨(ap.alloc _).alloc _,a8,by rw[pX _ _ _ a8];exact dD a _,by have:=dD (aY a<|au b d)<|au c e;rwa [hq]at this⟩
structure mr(A wx:a5)(gM b9 jY:Array ay)(cX mL RE:bJ):Prop where
 a9:H [] A wx
 size:x wx.heap=x A.heap+3
 d4:wx.heap[x A.heap]?=G (au gM cX (0,0))
 cA:wx.heap[x A.heap+1]?=G (au b9 mL (0,0))
 ep:wx.heap[x A.heap+2]?=G (au jY RE (0,0))
theorem mr.mk'(a:a5)(b c f:Array ay)(d e g:bJ):mr a (((aY a<|au b d).alloc<|au c e).alloc<|au f g) b c f d e g:=by
 have h:=dv.mk' a b c d e;refine⟨h.a9.alloc _,a8,?_,?_,?_⟩;.rw[pX _ _ _ aB];exact h.d4
 .rw[pX _ _ _ a8];exact h.cA
 .have:=dD ((aY a<|au b d).alloc<|au c e)<|au f g;rwa [hq,hq]at this
structure Pr(l:b3)(aD:List cM):Prop where
 cV:dT l
 cf:h5 l (b5 aD)
 gl:∀f(b2:f<j aD),bI l (b5 aD) aD[f].bT.aC aD[f].aE aD[f].bT.bu/\da aD[f].aE<=30
section
attribute [local go_sem↓]Go.wp_at_zero Go.wp_at_succ
def ms{a:Addr}(c:ax i a=G K)(b:Obj):(aY i b).cell? a=G K:=((H.refl [] i).alloc b).a2 c
def pj(a b:a5)(c:D)(d:ay):Prop:=a6 (aQ<|x a.heap) b c d
def pj.all{a0:aw}{a:D}(c:pj i P a K)(b:∀b,b∈a0->b<x i.heap):a6 a0 P a K:=a6.sub c a3
def pj.bt{a:D}(b:pj i P a K):a6 [] P a K:=b.all a8
theorem pj.I{A:a5}{a:D}(b:pj i A a K)(c:H [] A P):pj i P a K:=a6.I b c
def pj.older{a:a5}{b:D}(c:pj P a b K)(d:x i.heap<=x P.heap):pj i a b K:=a6.sub c a3
def RF{bN:a5}(g:aU w (x i.heap) bN T 1 K (b6 L)):pj i bN (aI L) K:=by obtain⟨⟨c,d,e⟩,f,l⟩:=g;exact(aU.mk (a0:=List.range i.heap.size) (b9:=i.heap.size) ⟨c,d,repC_of_ints e⟩ f λm n o=>by have:=(aU.lt (a0:=w) ⟨⟨c,d,e⟩,f,l⟩ m n).1;rw[gB]at o;omega).bt where repC_of_ints{j bz:aw}{k bN:a5}:∀{a:ab}{b:de},cw j k (b6 a).flatten b->cw bz bN (b6 a).flatten b|[],[],_=>DP|[],_::_,b2=>tT|_::_,[],b2=>tT|a::d,b::e,c=>by have vG:=c;(have c:a6 bz bN (.int a) b:=JK);exact⟨c,(repC_of_ints (bz:=bz) (bN:=bN) vG.2)⟩
def jn(a:Int)(b:a5):aR aK 45 #[ag a] b λc d=>c=bg (.bool<|eE a)/\b=d:=by
 have b:eE a=(decide (14<=a)&&decide (a<=17)):=rfl;rw[b];by_cases b:14<=a;.by_cases c:a<=17;(.rw[show(decide (14<=a)&&decide (a<=17))=true by grind];go_enter func45,ntmps45;go_wp2;go_ret;exact⟨u,u⟩);.rw[show(decide (14<=a)&&decide (a<=17))=false by simp[c]];go_enter func45,ntmps45;go_wp2;go_ret;exact⟨u,u⟩
 .rw[show(decide (14<=a)&&decide (a<=17))=false by simp[b]];go_enter func45,ntmps45;go_wp2;go_ret;exact⟨u,u⟩
def rf(d:az)(b e:Nat)(a:Int)(c:a5):aR aK 147 #[q d b e,ag a] c λd e=>d=bg (.bool<|bS 0 a b)/\c=e:=by
 by_cases c:0<=a;.by_cases d:a<=b;(.rw[show bS 0 a b=true by grind[bS]];go_enter func147,JL;go_wp2;go_ret;exact⟨u,u⟩);.rw[show bS 0 a b=false by simp[bS,d]];go_enter func147,JL;go_wp2;go_ret;exact⟨u,u⟩
 .rw[show bS 0 a b=false by simp[bS,c]];go_enter func147,JL;go_wp2;go_ret;exact⟨u,u⟩
def vH(a:Int)(b:a5):aR aK 154 #[ag a] b λc d=>c=bg (.bool<|iN a)/\b=d:=by
 rcases(m:a=6\/a=9\/a=10\/a=11\/(¬a=6/\¬a=9/\¬a=10/\¬a=11))with rfl|rfl|rfl|rfl|⟨e,f,g,h⟩;. exact DQ
 . exact DQ
 . exact DQ
 . exact DQ
 . (have b:(a==6)=false:=a3);(have b:(a==9)=false:=a3);(have b:(a==10)=false:=a3);(have b:(a==11)=false:=a3);(have b:iN a=false:=CZ);rw[b];go_enter func154,ntmps154;go_wp2;go_ret;exact⟨u,u⟩
def JM(l:az)(c n:Nat)(h:ay)(d:b3)(a:ab)(e:a5)(i:c=j d)(f:a6 w e (aI a) h):aR aK 146 #[q l c n,h] e λo p=>o=bg (.bool<|dp d a)/\e=p:=by
 obtain⟨r,k⟩:=aq f i;obtain⟨v,x,rfl,y,z⟩:=bF f;clear f i;go_enter func146,ntmps146;go_wp2;go_loop [9](λs=>∃g:Nat,g<=j a/\s=ag g/\dp d (a.take g)=true)(λt=>j a -(intOf t).toNat);.grind[dp]
 obtain⟨b,A,rfl,mi:aj _⟩:=hrel;by_cases f0:b<j a;(.obtain⟨B,C,rfl,_,D,E⟩:=bY r f0;cases p6:bS 0 a[b] (j d);(. (have d:bS 0 a[b] (c:Int)=false:=by rw[k.h];exact p6);go_wp2_with(go_at_call 147;refine ad (rf _ _ _ _ _) ?_;rintro e e⟨rfl,rfl⟩;rw[d]);go_ret;exact⟨cS (IX f0 p6).symm,u⟩);. (have d:bS 0 a[b] (c:Int)=true:=by rw[k.h];exact p6);go_wp2_with(go_at_call 147;refine ad (rf _ _ _ _ _) ?_;rintro a a⟨rfl,rfl⟩;rw[d]);go_round;(.exact⟨b+1,m,bf,Qn⟩);exact bc);. exact HG
def RG(f:ay)(a:b3)(c:a5)(g:a6 w c (dd a) f)(q:dg a (j a)<=1073741824):aR aK 239 #[f] c (fi c<|ag<|dg a<|j a):=by
 have i:=y g;obtain⟨r,s,rfl,t,v⟩:=gq g;go_enter func239,ntmps239;go_wp2;go_loopw [3,8](λk l wr=>∃d:Nat,d<=j a/\l=ag d/\k=ag (dg a d)/\H [] c wr)(λ_ n _=>j a -(intOf n).toNat);.grind[Cy,ap]
 obtain⟨b,x,rfl,rfl,e:aj _⟩:=hrel;have z:=q1 a b;by_cases h:b<j a;(.obtain⟨A,B,C,D,rfl,E,F,G,I,_⟩:=iG (i.I e) h;have o:=mN h;have J:=nx a (b+1) (j a) m<|Nat.le_refl _;(have K:dg a b+a[b].cons.length<=1073741824:=m);have p:=y o;generalize a[b]=L at*;go_wp2;go_roundw;(.exact⟨b+1,m,bf,by rw[p.h],e.alloc _⟩);exact bc);. (have o:b=j a:=m);subst o;go_wp2;go_ret;exact⟨u,e⟩
def RH(f:aw)(a:b3)(b:Int)(g:a5)(h:Ending)(c:a5):Prop:=∃d e,h=bg (.tuple #[ag (eC a b),aO #[q d (j<|bh a b) e]])/\H [] g c/\a6 f c (aI<|bh a b) (q d (j<|bh a b) e)
def RI(a:e<j O)(b:dg O (j O)<=1073741824):O[e].cons.length<=1073741824:=by
 have b:=q1 O e;have b:=mN a;have a:=nx O (e+1) (j O) m<|cF _;omega
def RJ(a:e<j O)(b:eC O N=e+1)(c:N - dg O e=J)(d:J<O[e].cons.length):bh O N=O[e].cons[J]:=by
 unfold bh;rw[be m,b,show((e:Int)+1 - 1).toNat=e by omega,jC a,c,kJ];simp[d]
def JN{J:aw}(K:ay)(a:b3)(b:Int)(A:a5)(r:a6 J A (dd a) K)(T:dg a (j a)<=1073741824)(af: -4611686018427387904<=b)(ah:b<=9223372036854775807):aR aK 207 #[K,ag b] A (RH J a b A):=by
 have U:=y r;obtain⟨ai,ak,rfl,al,am⟩:=gq r;clear r;go_enter func207,ntmps207;go_upto_region 0 with fail;go_cut [5](λV wx=>V=d2 A 0/\H [] A wx/\wx.heap[x A.heap]?=G (au #[q F 0 0] 102 (0,0)));. exact nO
 obtain⟨rfl,s:aj _,t:aj _⟩:=hcut;have W:x A.heap<x wc.heap:=(fq.1 t).1;have X:=y<|(U.cons<|Nat.le_refl _).I s;go_wp2;go_loopw [1,10](λY av wr=>∃(o:Nat)(L:Int),o<=j a/\av=ag o/\Y=ag L/\L=b - dg a o/\(∀av,av<o->iI a b av=false)/\H [] wc wr)(λ_ av _=>j a -(intOf av).toNat);.grind[Cy,ap]
 obtain⟨k,z,an,rfl,rfl,f,g,c⟩:=hrel;obtain⟨mi,ca,A3⟩:=bb g c f;have h:=q1 a k;have l:=nx a k (j a) m<|Nat.le_refl _;(have ao: -4611686019501129728<=z/\z<=9223372036854775807:=m);have ar:=c.size;have Z:=c.aJ (j7 wc (x A.heap) 0 _ _ _ t.h) a8;have e:=(c.block (x A.heap) W a8).trans t.h;have M:=y e;have az:=JO wr (x A.heap) 0 _ _ e;clear g c e f l h;by_cases e:k<j a;(.obtain⟨aA,aB,aC,B,rfl,aD,aE,aF,aG,c⟩:=iG (X.I ca) e;obtain⟨a0,fa,C,N,O⟩:=eY c (mN e) (by rw[iI,tp e]:iI a b k=bS (dg a k) b (dg a k+a[k].cons.length - 1)) (λ(a2:eC a b=k+1)(P:Nat)(a4:b - dg a k=P)(a7:P<a[k].cons.length)=>RJ e a2 a4 a7) (λaa=>CB e aa mi);have aH:=RI e T;clear c;generalize a[k]=d at*;by_cases l:0<=z/\z<j d.cons;(. (have n:iI a b k=true:=by rw[C.h];have:=A3.h;exact mM m m);have h:=O n;obtain⟨c,rfl⟩:=dB l.1;(have Q:c<j d.cons:=m);have R:=y<|N h c A3.symm Q;obtain⟨D,E,f,g,rfl,aI,ab,S⟩:=s6 a0 Q;obtain⟨ad,ae⟩:=aq S h;have aJ:(0:Int)<=c:=l.1;have aL:(c:Int)<j d.cons:=l.2;clear S h n l C O N fa;generalize d.cons[c]=n at*;go_wp2;obtain⟨c,dk⟩:=c4 (aY wr<|au #[ag d.cC,ag d.d3,a1 (aX D E) d.cons B] 100);have h:=y (ln:H [] wr c);(have Q:c.heap[x wr.heap]?=G (au #[ag d.cC,ag d.d3,a1 (G<|bs D E) d.cons B] 100 (0,0)):=pk);(have S:ax c (cO wr 2)=G (a1 (aX D E) d.cons B):=bq);have D:=h.a2 ab;have D:=h.a2 Z;have D:=y<|(h.block (x A.heap) m a8).trans M;have E:=JO c (x A.heap) 0 _ _ D;have E:=h.h.size;rw[<-dk];clear dk Q;go_region;all_goals go_wp2;have E:=((H.refl [x A.heap] c).setCell (p:=cO A 0) (aM a8)<|a1 f n g).drew;(have JP:bk ((bX c (cO A 0)<|a1 f n g).drew) A 0 (a1 f n g):=by show(bX c (cO A 0)<|a1 f n g).cell? (cO A 0)=_;rw[j7 _ (x A.heap) 0 _ _ _ (fl D)];rfl);refine cl (v:= .tuple #[ag ((k:Int)+1),.agg #[a1 f n g]]) RK u ?_;refine⟨f,g,?_,(y<|show H [] A _ from(s.aa<|ca.aa h).trans E bq),?_⟩;(.rw[ae.h,R.h]);.rw[R.h];exact((ad.I h.h).a9 E bq).tail);. (have f:iI a b k=false:=by cases c:iI a b k;(.rfl);.rw[C.h]at c;have e:=fr c;have c:=A3.h;exact absurd ⟨m,m⟩ l);have c:=y f;(have c:(0<=z/\¬(z<j d.cons))\/¬0<=z:=a3);rcases c with⟨e,f⟩|e;(. exact RL);. exact RL);.have c:=HI (λav e=>mi av m);obtain⟨f,e⟩:=aq c (by simp[bh,c]:bh a b=[]);go_wp2;(have JP:(bX wr (cO A 0)<|q F 0 0).cell? (cO A 0)=G (q F 0 0):=by rw[j7 _ (x A.heap) 0 _ _ _ (fl M)];rfl);refine cl (v:= .tuple #[ag (-1),.agg #[.slice none 0 0]]) RK u ?_;refine⟨F,0,?_,(y ((s.aa ca).trans ((H.refl [x A.heap] wr).setCell (p:=cO A 0) (aM a8)<|q F 0 0) bq:H [] A _)),?_⟩;(.rw[f.h,e.h];rfl);.rw[e.h];exact sw
def RM(f:aw)(a:b3)(b:Int)(g:a5)(h:Ending)(c:a5):Prop:=∃d e,h=bg (q d (j<|bh a b) e)/\H [] g c/\a6 f c (aI<|bh a b) (q d (j<|bh a b) e)
def RO{a0:aw}(d:ay)(a:b3)(b:Int)(c:a5)(e:a6 a0 c (dd a) d)(f:dg a (j a)<=1073741824)(g: -4611686018427387904<=b)(h:b<=9223372036854775807):aR aK 206 #[d,ag b] c (RM a0 a b c):=by
 have i:=y<|JN d a b c e f g h;obtain⟨k,l,rfl,m,n⟩:=gq e;go_enter func206,ntmps206;go_wp2_with(go_at_call 207;refine ad i ?_;rintro c c⟨c,c,rfl,a:aj _,b⟩;have c:=y b);go_ret;exact⟨_,_,u,a.alloc _,c.alloc _⟩
def dM{A:a5}{b:Nat}{a c d:ay}(b2:A.heap[b]?=G (au #[K,S,a,c,d] T (0,0))):ax A (bs b 0)=G K/\ax A ⟨b,1,F⟩=G S/\ax A ⟨b,2,F⟩=G a/\ax A ⟨b,3,F⟩=G c/\ax A ⟨b,4,F⟩=G d:=by
 refine⟨?_,?_,?_,?_,?_⟩;. exact xC
 . exact zM
 .rw[j7 A b 2 _ _ _ b2];rfl
 .rw[j7 A b 3 _ _ _ b2];rfl
 .rw[j7 A b 4 _ _ _ b2];rfl
def dv.keep'{wx:a5}{a b:Array ay}{c:bJ}(b2:dv i wx a b T c)(d:H [] wx P):P.heap[x i.heap]?=G (au a T (0,0))/\P.heap[x i.heap+1]?=G (au b c (0,0)):=⟨(d.block _ Dv a8).trans b2.d4,(d.block _ Dv a8).trans b2.cA⟩
def fi.trans{a:Ending}{b:a5}(c:fi P K a b)(d:H [] i P):fi i K a b:=⟨c.1,d.aa c.2⟩
structure cx(a0:aw)(A:a5)(n:aH)(bl:az)(bm:Nat)(qh:az)(h7:Nat):Prop where
 d:a6 a0 A (dd n.ai) (q bl (j n.ai) bm)
 r:a6 a0 A (q4 n.ah) (q qh (j n.ah) h7)
theorem cx.I{A:a5}(a:cx w A M R e Z J)(b:H [] A i):cx w i M R e Z J:=⟨a.d.I b,a.r.I b⟩
structure g4(n:aH):Prop where
 bE:dg n.ai (j n.ai)<=1073741824
 d5:∀c,j (bh n.ai c)<=1000
 A4:j n.ai<=1000000
 nr:j n.ah<=1000000
 hh:∀av,(dh n av).aC.length<=1000000
theorem pl(a:e<j M.ah):dh M e=M.ah[e]:=by simp[dh,a]
def n2{a:dt}(b:a6 w i (ld a) K):j a<=9223372036854775807:=by grind[CL]
theorem tU{a:bC}(b:a6 w i (e6 a) K):j a<=9223372036854775807:=by grind[oZ]
def sx{a:List dK}(b:a6 w i (q4 a) K):j a<=9223372036854775807:=by grind[Pw]
def iv(a:a6 w i (aI L) K):j L<=9223372036854775807:=by grind[bF]
theorem DR(a:a6 w i (dd O) K):j O<=9223372036854775807:=by grind[gq]
def tV(a:a6 w i (aI L) (q R e J)):j L<=J/\J<=9223372036854775807:=by grind[bF]
def RP{a:bC}(f:e<j a)(b:Int):lg (a.drop e) b=if b<1 then F else match lL a[e].a7 (b - 1)with|F=>F|G g=>lg (a.drop<|e+1) g:=by
 rw[kh f,lg];have:∀(c:b7)(d:Int),sb c d=lL c.a7 d:=λh i=>by cases h;rw[sb];rfl
 rw[this];rfl
def RQ{a:dt}(c:e<j a)(b:Int):lL (a.drop e) b=match h4 a[e] b with|F=>F|G b=>lL (a.drop<|e+1) b:=by
 rw[kh c,lL];rfl
def A5{a:cd}(b:h4 a N=G Y)(a:0<=N):0<=Y/\Y<=N:=by grind[Dg]
def xS{a:cd}(b:e<j a.ao):c8 a.ao[e]<bL a:=by grind[nz,i7]
def xT{a:b7}(b:e<j a.a7):bL a.a7[e]<c8 a:=by grind[lK,hb]
def RR(J:Nat):∀(M:aw)(s:cd),bL s<J->∀(K:ay)(k:Int)(t:a5),ob M t s K->0<=k->k<=1000000->aR aK 119 #[K,ag k] t (fi t<|ag<|(h4 s k).getD<|-1):=by induction J with|zero=>simp|succ au d=>intro N a av az b l O aA aB;have P:=y d;obtain⟨Q,R,rfl,c⟩:=O;have S:=y c;obtain⟨_,_,T,aC,aD⟩:=oZ c;injection T with U e V;subst U V;clear d c e;have W:=y (by cases a;rw[h4];rfl:h4 a b=lg a.ao b);go_enter func119,ntmps119;go_upto_region 0 with fail;go_cut [2](λX wx=>X=d2 l 0/\H [] l wx/\x l.heap<x wx.heap/\ax wx (cO l 0)=G (a1 Q a.ao R));(.go_wp2_with fail;go_meet;exact⟨u,ap.alloc _,a8,fP⟩);obtain⟨rfl,c,aE,Y⟩:=hcut;have n:=y c;clear c;go_wp2;go_loopw [1,5](λZ a0 wr=>∃(v:Nat)(o:Int),v<=j a.ao/\a0=C B v/\Z=ag o/\0<=o/\o<=b/\lg (a.ao.drop v) o=h4 a b/\H [] wc wr)(λ_ a2 _=>j a.ao -(intOf a2).toNat);(.exact⟨0,b,el _,u,u,m,m,by rw[W.h];rfl,ap⟩);obtain⟨f,p,aF,rfl,rfl,aG,aH,j6:aj _,d:aj _⟩:=hrel;have a3:=d.a2 Y;have aI:=d.size;by_cases w:f<j a.ao;(.obtain⟨aJ,aL,aM,aN,aO,aP,rfl,aQ,aS,aT,aU,aV,aW,a4,e,c⟩:=jf ((S.h.I n.h).I d) w;have a6:=y c;have aX:=n2 c;obtain⟨kU,JQ⟩:=aq (RP w p) (xS w);clear e c;generalize a.ao[f]=c at*;by_cases rg:p<1;(.go_wp2;go_ret;exact⟨eD (by rw[<-j6.h,kU.h,bB rg];rfl),n.aa d⟩);.have a7:=y (RS:(match lL c.a7 (p - 1)with|F=>F|G a9=>lg (a.ao.drop<|f+1) a9)=h4 a b);go_wp2;go_loopw [1,6](λab ae af=>∃(z:Nat)(q:Int),z<=j c.a7/\ae=ag z/\ab=ag q/\0<=q/\q<=b/\(match lL (c.a7.drop z) q with|F=>F|G ah=>lg (a.ao.drop<|f+1) ah)=h4 a b/\H [] wr af)(λ_ ai _=>j c.a7 -(intOf ai).toNat);(.exact⟨0,p - 1,el _,u,bf,m,m,a7,ap⟩);obtain⟨g,h,aY,rfl,rfl,L,ak,A:aj _,e:aj _⟩:=hrel;have aZ:=e.a2 a3;have a':=e.a2 a4;have b0:=e.size;by_cases D:g<j c.a7;(.obtain⟨b1,b2,b3,b4,rfl,b5,b6,b7,b8,al:aj _⟩:=ki (a6.I e) D;obtain⟨r,JR⟩:=aq (RQ D h) (xT D);have E:=P N c.a7[g] RT _ h wr ⟨_,_,u,al⟩ m m;have i:=y E;clear E;cases E:h4 c.a7[g] h with|none=>rw[E]at i r;go_wp2_with(go_at_call 119;refine ad i ?_;rintro an an⟨rfl,am:aj _⟩);go_ret;exact⟨eD (by rw[<-A.h,r.h];rfl),((n.aa d).aa e).aa am⟩|some am=>obtain⟨an,b9⟩:=A5 E L;rw[E]at i r;have ao:=y (i);clear i;go_wp2_with(go_at_call 119;refine ad ao ?_;rintro ba bb⟨rfl,ar:aj _⟩);go_roundw;(.exact⟨g+1,am,m,bf,u,an,m,by rw[<-A.h,r.h],e.aa ar⟩);exact bc);. (have i:=y<|show lg (a.ao.drop<|f+1) h=h4 a b by rw[<-A.h,s9 (m:j c.a7<=g),lL]);go_wp2;go_roundw;(.exact⟨f+1,h,m,bf,u,L,ak,i,d.aa e⟩);exact bc);.go_wp2;go_ret;exact⟨eD (by rw[<-j6.h,s9 m,lg];rfl),n.aa d⟩
def lX(a:cd):Int:=if(h4 a 600).isSome then 600 -(h4 a 600).getD 0 else -1
def RU(a:cd)(g:ay)(b:a5)(h:ob w b a g):aR aK 81 #[g] b (fi b<|ag<|lX a):=by
 have l:=y h;obtain⟨i,j,rfl,_⟩:=h;have n:∀d,H [] b d->aR aK 119 #[aO #[a1 i a.ao j,ag a.aV],ag 600] d (fi d<|ag<|(h4 a 600).getD<|-1):=λo p=>RR _ w a (jD _) _ 600 o (l.a9 p a3) m m;have e:=y n;cases c:h4 a 600 with|none=>have f:=y (by simp[lX,c]:lX a= -1);rw[c]at e;go_enter func81,ntmps81;go_wp2_with(go_at_call 119;refine ad (e _<|ap.alloc _) ?_;rintro q q⟨rfl,k:aj _⟩);go_ret;exact⟨eD f.symm,(ap.alloc _).aa k⟩|some k=>obtain⟨s,t⟩:=A5 c m;(have q:∀f,H [] b f->aR aK 119 #[aO #[a1 i a.ao j,ag a.aV],ag 600] f (fi f<|ag k):=λu v=>a3);clear e;go_enter func81,ntmps81;go_wp2_with(go_at_call 119;refine ad ((y q) _<|ap.alloc _) ?_;rintro x z⟨rfl,r:aj _⟩);go_ret;exact⟨eD (y (by simp[lX,c]:lX a=600 - k)).symm,(ap.alloc _).aa r⟩
def JS{b:cd}:(decide<|lX b<0)=!(h4 b 600).isSome:=by
 unfold lX;cases a:h4 b 600 with|none=>simp|some c=>obtain⟨d,e⟩:=A5 a m;simp;omega
structure dn(a0:aw)(A:a5)(s:b7)(gU:az)(gN:Nat)(ih:az)(gO:Nat):Prop where
 a:a6 a0 A (aI s.ak) (q gU (j s.ak) gN)
 k:a6 a0 A (ld s.a7) (q ih (j s.a7) gO)
theorem dn.I{A:a5}{a:b7}(b:dn w A a R e Z J)(c:H [] A i):dn w i a R e Z J:=⟨b.a.I c,b.k.I c⟩
def RV(k:ay)(a:ab)(b:b7)(l:az)(n:Nat)(o:az)(p:Nat)(f:a5)(g:a6 w f (aI a) k)(t:dn w f b l n o p)(A:j a<=1073741824):aR aK 159 #[k,aO #[ag b.af,ag b.an,ag b.b1,q l (j b.ak) n,q o (j b.a7) p]] f (fi f<|.bool<|kN a b.af b.b1):=by
 have u:=y g;obtain⟨B,C,rfl,_⟩:=bF g;clear g t;generalize b.af=e;generalize b.b1=c;by_cases r:c=0;.subst r;go_enter DS,DT;go_wp2;go_ret;exact⟨by simp[kN],ap.alloc _⟩
 have D:(c==0)=false:=a3;have h:kN a e c=(e==6&&bS 1 c (j a)&&decide (0<aP a (c - 1).toNat 0)):=by simp[kN,r]
 by_cases v:e=6;.subst v;cases i:bS 1 c (j a);(.have d:=y (a3:kN a 6 c=false);clear h;go_enter DS,DT;go_wp2_with(go_at_call 107;refine ad (gG _ _ _ _) ?_;rintro s s⟨rfl,rfl⟩;rw[i]);go_ret;exact⟨cS d.symm,ap.alloc _⟩);.obtain⟨E,F⟩:=fr i;obtain⟨d,s⟩:=dB (m:0<=c - 1);(obtain rfl:c=d+1:=m);(have x:d<j a:=m);have z:=y (a3:kN a 6 ((d:Int)+1)=decide (0<a[d]));obtain⟨G,H,rfl,_,I,J⟩:=bY u x;(have K:IntKind.i64.wrap ((d:Int)+1 - 1)=d:=by rw[s];exact fD _ m);clear h s;generalize a[d]=s at*;go_enter DS,DT;go_wp2_with(go_at_call 107;refine ad (gG _ _ _ _) ?_;rintro b b⟨rfl,rfl⟩;rw[i]);go_ret;exact⟨cS z.symm,ap.alloc _⟩
 . (have b:(e==6)=false:=a3);have b:=y (a3:kN a e c=false);clear h;go_enter DS,DT;go_wp2;go_ret;exact⟨cS b.symm,ap.alloc _⟩
def RW(d:aH)(a:ab)(c:Int)(b:ab):(j b≠1/\iL d a c b= -1)\/∃f,b=[f]/\((bS 0 f (j a - 1)=false/\iL d a c b= -1)\/∃e:Nat,f=e/\∃o:e<j a,bS 0 f (j a - 1)=true/\((a[e]=0/\iL d a c b= -1)\/(a[e]≠0/\iL d a c b=if c≠14/\c≠15/\ed d.ai a[e]=true then -1 else 0))):=by
 by_cases i:j b=1;.right;(obtain⟨g,rfl⟩:∃k,b=[k]:=by match b,i with|[h],_=>exact⟨h,u⟩);refine⟨g,u,?_⟩;cases l:bS 0 g (j a - 1);(.grind[iL]);.right;obtain⟨n,p⟩:=fr l;obtain⟨h,rfl⟩:=dB n;(have b:h<j a:=m);refine⟨h,u,b,u,?_⟩;grind[iL]
 grind[iL]
def RX{a0:aw}(b:aH)(g:az)(h:Nat)(o:az)(p:Nat)(A:ay)(c:ab)(a:b7)(r:az)(s:Nat)(t:az)(v:Nat)(d:a5)(D:cx a0 d b g h o p)(w:a6 a0 d (aI c) A)(E:dn a0 d a r s t v)(a4:j c<=1073741824):aR aK 166 #[aO #[q g (j b.ai) h,q o (j b.ah) p],A,aO #[ag a.af,C B a.an,C B a.b1,q r (j a.ak) s,q t (j a.a7) v]] d (fi d<|C B<|iL b c a.af a.ak):=by
 obtain⟨L,M,N⟩:=bb D w E;obtain⟨a7,a9,rfl,_⟩:=bF w;clear D w E;have O:=RW b c a.af a.ak;generalize f:iL b c a.af a.ak=aa at*;generalize F:a.ak=P at*;generalize a.af=e at*;have ae:IntKind.i64.wrap ((j c:Int)- 1)=(j c:Int)- 1:=fD _ m;have x:=y N.a;rw[F]at x;clear f;have af:=y F;rcases O with⟨ah,rfl⟩|⟨ai,rfl,Q⟩;.generalize j P=f at*;go_enter func166,ntmps166;go_wp2;go_ret;exact⟨u,(ap.alloc _).alloc _⟩
 simp only[gI,jV,gF]at x⊢;go_enter func166,ntmps166;go_upto_region 0 with fail;go_cut [3,5](λR S wx=>R=d2 d 0/\S=cc (l9 d 1 0)/\dv d wx #[a1 g b.ai h,a1 o b.ah p] #[ag e,ag a.an,ag a.b1,q r 1 s,a1 t a.a7 v] 26 47);.go_wp2_with fail;go_meet;grind[dv.mk']
 obtain⟨rfl,rfl,f⟩:=hcut;have ca:=y f.a9;obtain⟨⟨aj,ak⟩,_⟩:=b8 f.d4;obtain⟨al,am,an,ao,aq⟩:=dM f.cA;clear f;obtain⟨ar,au,rfl,_,ax,T⟩:=bY (x.I ca) (av:=0) a8;simp only[kL,jW]at T;rcases Q with⟨p6,rfl⟩|⟨G,rfl,U,p6,V⟩;(. exact RY);.obtain⟨aA,aB,rfl,_,aC,aD⟩:=bY (M.I ca) U;generalize c[G]=f at*;(have k:∀H I,(H=Ending.returned (.bool<|bS 0 (G:Int)<|j c - 1)/\wc=I)->(H=Ending.returned (.bool true)/\wc=I):=λaE aF aG=>a3);have qi:=y k;clear k;rcases V with⟨rfl,rfl⟩|⟨aJ,J⟩;(.go_wp2_with(go_at_call 107;refine ad (gG _ _ _ _) ?_;rintro l n k;obtain⟨rfl,rfl⟩:=qi _ _ k);go_ret;exact⟨u,ca⟩);. (have aL:(f==0)=false:=a3);have xU:=y J;clear J;have W:=y<|L.d.I ca;have l:∀K,aR aK 165 #[a1 g b.ai h,ag f] (gg wc K) λX Y=>X=bg (.bool<|ed b.ai f)/\gg wc K=Y:=λZ=>sa _ _ f _<|W.drewN Z;have k:=y l;clear l;by_cases l:e=14;(.subst l;exact RZ);. (have aM:(e==14)=false:=by simpa using l);by_cases z:e=15;(.subst z;exact RZ);. (have aN:(e !=14)=true:=by simpa using l);(have aP:(e !=15)=true:=by simpa using z);cases n:ed b.ai f;(.rw[n]at k;go_wp2_with(go_at_call 107;refine ad (gG _ _ _ _) ?_;rintro aQ aS a2;obtain⟨rfl,rfl⟩:=qi _ _ a2);go_quiet((go_at_call 165;exact kg<|k _));go_wp2;go_ret;exact⟨eD (by rw[xU.h,n];simp),ca.drewN _⟩);.rw[n]at k;go_wp2_with(go_at_call 107;refine ad (gG _ _ _ _) ?_;rintro aQ aS a2;obtain⟨rfl,rfl⟩:=qi _ _ a2);go_quiet((go_at_call 165;exact kg<|k _));go_wp2;go_ret;exact⟨eD (by rw[xU.h,n];simp[l,z]),ca.drewN _⟩
def S0{a:Program}{b:FuncId}{c:Array ay}(d:aR a b c (gg i<|e+J) λf g=>f=bg K/\gg i (e+J)=g):aR a b c (gg i<|e+J) λa b=>a=bg K/\∃a,b=gg i (e+a):=d.mono λ_ _⟨a,b⟩=>⟨a,J,b.symm⟩
def S1{a:Program}{b:FuncId}{c:Array ay}(d:aR a b c (gg i<|e+J) λf g=>f=bg K/\gg i (e+J)=g):aR a b c (gg i<|e+J) λa b=>a=bg K/\∃a,b=(gg i e).drewN a:=d.mono λ_ _⟨a,b⟩=>⟨a,J,bq⟩
def JT(d:a6 w i (aI L) (q R e J)){k c:Nat}(C:k<=j L)(E:k<=c)(n:c<=9223372036854775807):a6 w i (aI<|L.take k) (q R k c):=by
 simp only[aI,a6]at d⊢;obtain⟨F,G,o,H,I,p⟩:=d;injection o with r K M;subst r;have h:j (b6<|L.take k)=k:=vt;refine⟨R,c,by rw[h],m,n,λs=>?_⟩;obtain⟨b,l,t,u,v,x⟩:=p (by rw[h]at s;rw[cP];omega);exact⟨b,l,t,u,v,(((by intro y;induction y with|nil=>intro a a a;simpa[b6]using a|cons N O z=>intro A D a;cases A with|zero=>simp[b6,e9]|succ B=>simp only[b6,h0,e9,DU]at a⊢;exact⟨a.1,a.2.1,z B (D+1) a.2.2⟩:∀(f:ab)(k g:Nat),e9 w i 1 b (b6 f) g->e9 w i 1 b (b6<|f.take k) g)) L k l x)⟩
def S2{c:Nat}(a:a6 w i (aI<|N::L) (q (aX e J) Q V))(n:j L<=c)(f:c<=9223372036854775807):a6 w i (aI L) (q (aX e<|J+1) (j L) c):=by
 simp only[aI,a6]at a⊢;obtain⟨o,p,g,r,s,h⟩:=a;injection g with k t v;obtain⟨x,y,b,l,m,d⟩:=h tl;rw[<-k]at b;cases b;refine⟨_,c,vI,oX,f,λ_=>⟨e,J+1,u,l,m,?_⟩⟩;simp only[b6,h0,e9]at d;exact d.2.2
def S3(a:aH)(e:ab)(d c:Int)(f:ab):(bS 0 c (j a.ah - 1)=false/\kl a e d c f= -1)\/∃b:Nat,c=b/\b<j a.ah/\bS 0 c (j a.ah - 1)=true/\((d=9/\kl a e d c f=if eF e f (dh a b).aC then(dh a b).bu else -1)\/(d≠9/\kl a e d c f=if(dh a b).aC.length=0\/0<(dh a b).aG.length\/eF e f ((dh a b).aC.take<|(dh a b).aC.length - 1)=false then -1 else gH a.ai ((dh a b).aC.getD ((dh a b).aC.length - 1) 0) (dh a b).bu)):=by
 cases g:bS 0 c (j a.ah - 1);.grind[kl]
 .right;obtain⟨h,k⟩:=fr g;obtain⟨i,rfl⟩:=dB h;refine⟨i,u,m,u,?_⟩;by_cases a:d=9;(.grind[kl]);.grind[kl]
def S4{a0:aw}(d:aH)(B:az)(C:Nat)(D:az)(E:Nat)(P:ay)(e:ab)(b:b7)(r:az)(s:Nat)(F:az)(G:Nat)(f:a5)(Q:cx a0 f d B C D E)(I:a6 a0 f (aI e) P)(R:dn a0 f b r s F G)(S:j e<=1073741824)(J:g4 d):aR aK 164 #[aO #[q B (j d.ai) C,q D (j d.ah) E],P,aO #[ag b.af,ag b.an,ag b.b1,q r (j b.ak) s,q F (j b.a7) G]] f (fi f<|ag<|kl d e b.af b.an b.ak):=by
 obtain⟨T,ae,af⟩:=bb Q I R;have aE:=J.nr;have ah:=y J.hh;obtain⟨ai,aj,rfl,_⟩:=bF I;clear Q I R J;have ak:=S3 d e b.af b.an b.ak;generalize g:kl d e b.af b.an b.ak=aF at*;generalize a:b.ak=h at*;generalize b.af=U at*;generalize b.an=al at*;have aG:IntKind.i64.wrap ((j d.ah:Int)- 1)=(j d.ah:Int)- 1:=fD _ m;have V:=y af.a;rw[a]at V;clear g a;go_enter func164,ntmps164;go_upto_region 0 with fail;go_cut [3,5](λam an wx=>am=d2 f 0/\an=e0 f 1 0/\dv f wx #[a1 B d.ai C,a1 D d.ah E] #[ag U,ag al,ag b.b1,a1 r h s,a1 F b.a7 G] 26 47);. exact ft
 obtain⟨rfl,rfl,a⟩:=hcut;have ca:=y a.a9;have aJ:=a.size;obtain⟨⟨aL,aN⟩,_⟩:=b8 a.d4;obtain⟨aQ,aS,aT,aU,aV⟩:=dM a.cA;clear a;rcases ak with⟨p6,rfl⟩|⟨K,rfl,W,p6,X⟩;(. exact RY);.obtain⟨aW,aZ,Y,i,t,v,w,x,rfl,_,a',b0,b1,b3,b4,b5,a,g,_⟩:=hN (T.r.I ca) W;have l:=pl W;have ao:=ah K;rw[l]at X ao;obtain⟨ap,b6⟩:=aq a g;obtain⟨b9,ar⟩:=tV a;clear a g l;generalize d.ah[K]=a at*;(have g:∀Z a2,(Z=Ending.returned (.bool<|bS 0 (K:Int)<|j d.ah - 1)/\wc=a2)->(Z=Ending.returned (.bool true)/\wc=a2):=λba bc bd=>a3);have qi:=y g;clear g;have gD:=y (ca.alloc _:H [] f (aY wc<|au #[a1 Y a.aC i,a1 t a.aG v,ag a.bu,a1 w a.aE.ao x,ag a.aE.aV] 40));obtain⟨a4,a7,L,av⟩:=ck (ae.I gD) (V.I gD.h) (ap.h.alloc<|au #[q Y (j a.aC) i,q t (j a.aG) v,ag a.bu,a1 w a.aE.ao x,ag a.aE.aV] 40) (T.d.I gD);rcases X with⟨rfl,l⟩|⟨bf,l⟩;(.have xU:=y l;clear l;have n3:=y<|zI _ _ _ e h a.aC _ a4 a7 L S;cases xV:eF e h a.aC;(. exact S5);. exact S5);.have n:=y l;(have bg:(U==9)=false:=a3);clear l;by_cases o:j a.aC=0;(. (have z:((j a.aC:Int)==0)=true:=by simp[o]);have g:=y o;clear o;go_wp2_with(first|(go_at_call 107;refine ad (gG _ _ _ _) ?_;rintro A M p;obtain⟨rfl,rfl⟩:=qi _ _ p));go_quiet(fail);go_wp2;go_ret;exact⟨eD (by rw[n.h,bB (aM g.h)]),gD.drewN _⟩);(have bh:((j a.aC:Int)==0)=false:=a3);by_cases p:0<j a.aG;(.have z:=n4 p;go_wp2_with(go_at_call 107;refine ad (gG _ _ _ _) ?_;rintro A M g;obtain⟨rfl,rfl⟩:=qi _ _ g);go_quiet(fail);go_wp2;go_ret;exact⟨eD (by rw[n.h,bB (bj<|aM p)]),gD.drewN _⟩);have bi:=nP p;(have bk:IntKind.i64.wrap ((j a.aC:Int)- 1)=((j a.aC - 1:Nat):Int):=by rw[show(j a.aC:Int)- 1=((j a.aC - 1:Nat):Int)by omega];exact fD _ m);obtain⟨z,ax⟩:=aq (m:j a.aC - 1<j a.aC) (JT L (k:=a.aC.length - 1) (c:=i) m m ar);generalize bl:j a.aC - 1=g at*;(have bm:(j a.aC:Int)- 1=g:=m);obtain⟨M,N,aA,_,bn,bo⟩:=bY L z;(have a8:aP a.aC g 0=a.aC[g]' z.h:=a3);rw[a8]at n;subst aA;have bp:=z.h;have a9:=y (λaB=>CK _ d.ai (a.aC[g]' z.h) a.bu _<|av.drewN aB);have aa:∀aC,aR aK 160 #[a1 ai e aj,a1 r h s,q (aX M N) g i] ((aY wc<|au #[a1 (aX M N) a.aC i,a1 t a.aG v,ag a.bu,a1 w a.aE.ao x,ag a.aE.aV] 40).drewN aC) (ol ((aY wc<|au #[a1 (aX M N) a.aC i,a1 t a.aG v,ag a.bu,a1 w a.aE.ao x,ag a.aE.aV] 40))<|.bool<|eF e h<|a.aC.take g):=λO=>(zI _ _ _ e h (a.aC.take g) _ (a4.drewN O) (a7.drewN O) (ax.drewN O) S).mono λ_ _ aD=>aD.dA;obtain⟨A,bq⟩:=aq aa (And.intro o p);clear aa a8 o p;cases o:eF e h (a.aC.take g);(.rw[o]at A;go_wp2_with(go_at_call 107;refine ad (gG _ _ _ _) ?_;rintro a8 aa p;obtain⟨rfl,rfl⟩:=qi _ _ p);go_quiet((go_at_call 160;exact A _));go_wp2;go_ret;exact⟨eD (by rw[n.h,o,bB (bj<|bj u)]),gD.drewN _⟩);.rw[o]at A;go_wp2_with(go_at_call 107;refine ad (gG _ _ _ _) ?_;rintro a8 aa p;obtain⟨rfl,rfl⟩:=qi _ _ p);go_quiet((go_at_call 160;exact A _));go_wp2;go_quiet((go_at_call 217;first|exact S0<|a9 _|exact S1<|a9 _));go_wp2;go_ret;exact⟨eD (by rw[n.h,o,be a3]),((gD.drewN _).drewN _)⟩
def eq{A:a5}{b:Nat}{a c d e f:ay}(b2:A.heap[b]?=G (au #[K,S,a,c,d,e,f] T (0,0))):ax A ⟨b,0,F⟩=G K/\ax A ⟨b,1,F⟩=G S/\ax A ⟨b,2,F⟩=G a/\ax A ⟨b,3,F⟩=G c/\ax A ⟨b,4,F⟩=G d/\ax A ⟨b,5,F⟩=G e/\ax A ⟨b,6,F⟩=G f:=by
 refine⟨?_,?_,?_,?_,?_,?_,?_⟩;. exact xC
 . exact zM
 .rw[j7 A b 2 _ _ _ b2];rfl
 .rw[j7 A b 3 _ _ _ b2];rfl
 .rw[j7 A b 4 _ _ _ b2];rfl
 .rw[j7 A b 5 _ _ _ b2];rfl
 .rw[j7 A b 6 _ _ _ b2];rfl
def DV(b:ab):Prop:=∀a(c:a<j b),b[a]<a
def S6{a:ab}(b:J<j X)(b:J<j a):gi L X a (e+1) J=if X[J]<1/\dN L J=false then(if a[J]<0 then false else gi L X a e a[J])else true:=by grind[gi,Int.toNat_natCast]
def S7(z:Nat)(N A B O P Q n:ay)(R:bJ)(a b c:ab)(e:Nat)(d:a5)(C:d.heap[z]?=G (au #[N,A,B,O,P,Q,n] R (0,0)))(o:a6 w d (aI a) A)(p:a6 w d (aI b) B)(D:a6 w d (aI c) n)(ae:j b=j a)(E:DV b)(F:e<j a):aR aK 70 #[f6 z 0,ag e] d (ol d<|.bool<|gi c a b (j a) e):=by
 obtain⟨_,S,T,_,_,_,U⟩:=eq C;obtain⟨V,W,X,Y⟩:=ck o p D E;obtain⟨af,ah,rfl,ai,_⟩:=bF o;obtain⟨aj,ak,rfl,al,_⟩:=bF p;clear o p D E C;generalize g:gi c a b (j a) e=f;have Z:=y (⟨_,F,g⟩:∃I,e<I/\gi c a b I e=f);clear g;go_enter func70,ntmps70;go_wp2;go_loopw [1](λa0 wr=>∃h:Nat,h<j a/\a0=ag h/\(∃J,h<J/\gi c a b J h=f)/\∃a1,wr=gg d a1)(λa2 _=>(intOf a2).toNat);.exact⟨e,F,u,Z,0,u⟩
 obtain⟨g,K,rfl,a3,qj⟩:=hrel;obtain⟨a4,am,q⟩:=a3;cases a4 with|zero=>omega|succ L=>obtain⟨i,k⟩:=aq qj (S8:H [] d wr);obtain⟨an,ao,ar⟩:=k.dG S T U;(have r:g<j b:=m);rw[S6 K r]at q;have av:=Y g r;have l:=y q;clear q qj;obtain⟨ax,az,rfl,_,aA,aB⟩:=bY (V.I k) K;obtain⟨aC,aD,rfl,_,aE,aF⟩:=bY (W.I k) r;have s:=y<|jB n c g wr<|X.I k;generalize a[g]=a7 at*;generalize b[g]=t at*;generalize dN c g=a8 at*;by_cases v:a7<1;(.cases a8;(.by_cases x:t<0;(.go_wp2_with(go_at_call 109;refine ad s ?_;rintro M M⟨rfl,rfl⟩);go_ret;exact⟨cS (y (by rw[<-l.h];simp[v,x]:f=false)).symm,i⟩);.have a9:=y (by rw[<-l.h];simp[v,x]:gi c a b L t=f);(have M:0<=t:=m);obtain⟨aa,rfl⟩:=dB M;clear x M;go_wp2_with(go_at_call 109;refine ad s ?_;rintro e e⟨rfl,rfl⟩);go_roundw;(.exact⟨aa,m,u,⟨L,m,a9⟩,i⟩);exact bc);.have e:=y (by rw[<-l.h];simp:f=true);go_wp2_with(go_at_call 109;refine ad s ?_;rintro h h⟨rfl,rfl⟩);go_ret;exact⟨cS e.symm,i⟩);.go_wp2;go_ret;exact⟨cS (y (by rw[<-l.h];simp[v]:f=true)).symm,i⟩
end
theorem DW{bz:aw}{bN:a5}:∀{a:ab}{b:de},cw w i (b6 a).flatten b->cw bz bN (b6 a).flatten b|[],[],_=>DP|[],_::_,b2=>tT|_::_,[],b2=>tT|a::d,b::e,c=>by have vG:=c;(have c:a6 bz bN (.int a) b:=JK);exact⟨c,(DW (bz:=bz) (bN:=bN) vG.2)⟩
def aU.aI{bz:aw}{bH:ab}(b:aU w e i T 1 K (b6 bH))(c:∀a,a∈aF K->a∉bz):aU bz e i T 1 K (b6 bH):=by
 obtain⟨⟨a,d,e⟩,f,_⟩:=b;exact⟨⟨a,d,DW e⟩,f,c⟩
structure hx(a0:aw)(aA A:a5)(p:Nat)(cX:bJ)(e1:de)(cH:List ab):Prop where
 cQ:A.heap[p]?=G (au e1.toArray cX (0,0))
 ae:∀(av:Nat)v z,e1[av]?=G v->cH[av]?=G z->aU (p::a0) (x aA.heap) A 3 1 v (b6 z)
 e4:∀(av cN:Nat)cG v,av≠cN->av<j cH->e1[av]?=G cG->e1[cN]?=G v->∀g,g∈aF cG->g∉aF v
 pm:∀(av:Nat)v,e1[av]?=G v->∀g,g∈aF v->g<x A.heap
 a9:H [] aA A
 fE:x aA.heap<=p
section
variable{a0:aw}{aA A wx cb:a5}{p:Nat}{cX:bJ}{e1:de}{cH:List ab}
def hx.lt(a:hx a0 aA A p cX e1 cH):p<x A.heap:=(fq.1 a.cQ).1
theorem hx.I(a:hx a0 aA A p cX e1 cH)(b:H [] A wx):hx a0 aA wx p cX e1 cH:=⟨(b.block p a.lt a8).trans a.cQ,λc d e f g=>(a.ae c d e f g).I b,a.e4,λc d e f g=>dF (a.pm c d e f g) b.size,a.a9.aa b,a.fE⟩
def hx.push(a:hx a0 aA A p cX e1 cH)(e:H [] A wx){av:Nat}(n:av<j cH)(f:e1[av]?=G K)(E:cH[av]?=G L)(v:aU (p::a0) (x aA.heap) cb 3 1 S (b6 X))(g:mg (p::a0) K S wx cb):hx a0 aA (bX cb (bs p av) S) p cX (e1.set av S) (cH.set av X):=by
 have F:p<x wx.heap:=dF a.lt e.size;have y:=a.ae av K L f E;have J:p∉aF K:=λN=>y.e4 p N a8;have h:=(tW.1 f).1;have z:∀o,o∈aF S->o∈aF K\/o=x wx.heap:=λO P=>by rcases g.dA with b|b;(.grind[aF]);.grind[aF]
 have B:H [p] cb (bX cb (bs p av) S):=ap.setCell (aM a8) _;have Q:x wx.heap<=x cb.heap:=g.a9.size;have R:=e.size;refine⟨?_,?_,?_,?_,?_,a.fE⟩;.rw[fl ((g.a9.block p F J).trans<|(e.block p a.lt a8).trans a.cQ)];simp
 .intro d i l b c;by_cases k:av=d;(.subst k;rw[vJ h]at b;rw[vJ n]at c;cases b;cases c;exact v.a9 B a3);.rw[oy k]at b c;have m:=(a.ae d i l b c).I e;(have r:aU (p::a0) (x aA.heap) cb 3 1 i (b6 l):=by refine aU.sub (a0:=aF K++(p::a0)) ?_ a3;refine aU.a9 (A:=wx) (cY:=aF K) ?_ g.a9 a3;refine m.aI λl q s=>?_;rcases cI.1 s with c|c;(.exact(a.e4 av d K i k n f b) l c q);.exact m.e4 l q c);exact r.a9 B a3
 .intro i k r s t u d b c l m;rw[ks]at u;by_cases q:av=i;(.subst q;rw[vJ h]at d;cases d;rw[oy t]at b;rcases z c l with C|C;(.exact a.e4 av k K s t n f b c C m);.have:=a.pm k s b c m;omega);.rw[oy q]at d;by_cases C:av=k;(.subst C;rw[vJ h]at b;cases b;rcases z c m with D|D;(.exact a.e4 i av r K (Ne.symm q) u d f c l D);.have:=a.pm i r d c l;omega);.rw[oy C]at b;exact a.e4 i k r s t u d b c l m
 .intro c l b d i;rw[tX];by_cases k:av=c;(.subst k;rw[vJ h]at b;cases b;exact(v.lt d i).2);.rw[oy k]at b;have:=a.pm c l b d i;omega
 .refine((((a.a9.aa e).cn.then g.a9:H (aF K) aA cb)).setCell (bj a.fE) _).mono λa b=>bj (y.lt a b).1
end
def dP(c:ab)(a:Int):Prop:=∀b∈c,-a<=b/\b<=a
def dP.mono{DX:Int}(a:dP L N)(b:N<=DX):dP L DX:=λb c=>by have:=a b c;omega
theorem dP.getD(b:dP L N)(e:0<=N)(a:Nat): -N<=L.getD a 0/\L.getD a 0<=N:=by
 rw[gS];cases c:L[a]? with|none=>simp;omega|some d=>exact b d<|sc c
theorem dP.set(b:dP L N)(av:Nat){aS:Int}(a: -N<=aS/\aS<=N):dP (L.set av aS) N:=λc d=>by rcases xW d with a|a;(.exact b c a);.grind
def dP.app(c:dP L N)(d:dP X N):dP (L++X) N:=λb e=>by rcases cI.1 e with a|a;(.exact c b a);.exact d b a
theorem dP.d9(b:dP L N)(c:0<=N)(a:d9 L Y=G X):dP X N:=by
 unfold Go.Proofs.YtfekcilkpafpjaaGreat.d9 at a;split at a;.cases a
 .cases a;have:=b.getD c<|bw Y;exact b.set _ m
theorem dP.hd:∀(b c:ab)(d a:Int),dP c a->0<=a->dP (hd c d b) (a+j b)|[],b,c,d,a,_=>by simpa[Go.Proofs.YtfekcilkpafpjaaGreat.hd]using a|e::f,b,a,d,c,g=>by have h:=c.getD g<|bw a;(have g:dP (if e≠0 then b.set (bw a) (aP b (bw a) 0+1)else b) (d+1):=by split;(.exact(c.mono m).set _ m);.exact c.mono m);have:=dP.hd f _ (a+1) (d+1) g m;rw[Go.Proofs.YtfekcilkpafpjaaGreat.hd];refine this.mono ?_;simp only[gI];omega
theorem dP.fh(c:aH)(d:ab)(f g:Int)(b:ab):∀(q u:Nat)(m n:ab)(i:Int),dP m i->0<=i->fh c d f g b m q u=G n->dP n i|0,v,w,y,z,b2,_,cT=>Qf|o+1,k,p,r,s,t,l,a=>by rw[Go.Proofs.YtfekcilkpafpjaaGreat.fh]at a;split at a;(.cases j:Go.Proofs.YtfekcilkpafpjaaGreat.d9 p (aP b k 0)with|none=>rw[j]at a;cases a|some i=>rw[j]at a;exact dP.fh c d f g b o (k+1) i r s (t.d9 l j) l a);.exact dP.fh c d f g b o (k+1) p r s t l a
theorem dP.hD{c:br}{e:Int}{b:Int}(f:dP W.ae b)(g:0<=b)(a:hD M L W N Y e X=G c):dP c.ae b:=by
 unfold Go.Proofs.YtfekcilkpafpjaaGreat.hD at a;cases d:Go.Proofs.YtfekcilkpafpjaaGreat.fh M W.am N Y X W.ae (j X) 0 with|none=>grind|some i=>rw[d]at a;have h:=dP.fh _ _ _ _ _ _ _ _ _ _ f g d;simp only[]at a;(repeat' split at a);all_goals first|(cases a;done)|(cases a;exact h)
theorem dP.hO{d:br}{b:Int}(f:∀g,j (bh M.ai g)<=1000)(h:dP W.ae b)(e:0<=b)(a:hO M W N Y=G d):dP d.ae (b+1000):=by
 unfold Go.Proofs.YtfekcilkpafpjaaGreat.hO at a;split at a;.cases a
 .cases c:Go.Proofs.YtfekcilkpafpjaaGreat.d9 W.ae Y with|none=>rw[c]at a;cases a|some i=>rw[c]at a;cases a;have:=f<|aP W.cJ (bw Y) 0;exact(dP.hd _ _ _ _ (h.d9 e c) e).mono m
def DY(c:aH)(a:br)(d:Int)(e:ab)(f:Int)(b:dP a.ae N)(h:0<=N):dP (fR c a d e f).ae N:=by
 unfold fR;split;.rw[r2];refine b.app λi g=>?_;obtain⟨_,_,rfl⟩:=iJ.1 g;omega
 .exact b
mutual theorem S9{q:aH}(ad:∀ae,j (bh q.ai ae)<=1000)(v:ab):∀(L:cd)(M N:br)(af:Nat)(w:Int),dP M.ae w->0<=w->fx q v M af L=G N->dP N.ae (w+1001*bL L)|.mk c ag,O,aC,ah,e,ai,aj,a=>by rw[fx]at a;rw[bL];cases d:eu q v O c with|none=>grind|some f=>rw[d]at a;have k:=JU ad v c O f e ai aj d;have g:=k.mono (DX:=e+1001*((ci c+1:Nat):Int)) m;(have l:0<=e+1001*((ci c+1:Nat):Int):=m);simp only[]at a;have h:∀(i:ab),dP i (e+1001*((ci c+1:Nat):Int))->dP (i.take ah) (e+1001*((ci c+1:Nat):Int)):=λr n o p=>n o<|List.mem_of_mem_take p;split at a;(.cases b:Go.Proofs.YtfekcilkpafpjaaGreat.d9 f.ae ag with|none=>rw[b]at a;cases a|some s=>rw[b]at a;simp only[]at a;split at a;(.cases a;exact h _<|g.d9 l b);.cases a);.split at a;(.cases a;exact h _ g);.cases a theorem JU{x:aH}(P:∀ak,j (bh x.ai ak)<=1000)(l:ab):∀(Q:bC)(R S:br)(y:Int),dP R.ae y->0<=y->eu x l R Q=G S->dP S.ae (y+1001*ci Q)|[],aD,aE,aF,aG,_,aI=>by grind[eu,ci]|T::al,U,am,an,ao,ap,z=>by rw[eu]at z;rw[ci];cases b:fU x l U T with|none=>grind|some d=>rw[b]at z;have f:=JU P l al d am _ (JV P l T U d an ao ap b) m z;exact f.mono m theorem JV{n:aH}(V:∀aq,j (bh n.ai aq)<=1000)(A:ab):∀(W:b7)(X Y:br)(B:Int),dP X.ae B->0<=B->fU n A X W=G Y->dP Y.ae (B+1001*c8 W)|.mk D Z aJ o f,a0,aL,p,d,g,E=>by rw[fU]at E;rw[c8];obtain⟨h,b,i⟩:=vk.1 E;(have s:dP h.ae (p+1000+1001*dR f):=by clear E i;have H:=d.getD g (aP o 0 0).toNat;split at b;(.split at b;(.cases b;exact(d.mono m).set _ m);.cases b);.split at b;(.obtain⟨t,k,r⟩:=vk.1 b;subst r;exact(d.d9 g k).mono m);.split at b;(.exact(d.hO V g b).mono m);.split at b;(.split at b;(.cases b);.cases k:fV n A a0 D o f (if D=8 then bx n.ai Z else []) F with|none=>grind|some t=>cases t with|none=>grind|some r=>have u:=DZ V A f _ F a0 D o r p (p+1000+1001*dR f) d g m (λI C=>by cases C) k;obtain⟨J,K⟩:=r;rw[k]at b;cases b;exact u);.exact(d.hD g b).mono m);subst i;have k:dP h.ae (p+1001*((dR f+j o+1+pen Z:Nat):Int)):=s.mono m;split;(.show dP (h.ae++[_]) _;refine k.app λt r=>?_;rcases kG.1 r with rfl;split<;>omega);.exact k theorem DZ{h:aH}(C:∀ar,j (bh h.ai ar)<=1000)(i:ab):∀(a1:dt)(au:ab)(a2:Option (ab×ab))(a3:br)(av:Int)(aw:ab)(a4:ab×ab)(H I:Int),dP a3.ae H->0<=H->H+1001*dR a1<=I->(∀a5,a2=G a5->dP a5.1 I)->fV h i a3 av aw a1 au a2=G (G a4)->dP a4.1 I|[],aN,aS,aT,aU,aV,aW,aX,aZ,_,_,_,a',b0=>by grind[fV,Option.some.inj]|a6::a7,r,ay,k,s,t,a8,J,a9,K,u,az,aA,b=>by rw[fV]at b;rw[dR]at az;cases aa:fx h i (fR h k s t<|r.headD 0) (j k.am) a6 with|none=>grind|some aK=>rw[aa]at b;have ax:=S9 C i a6 _ _ _ J (DY h k s t (r.headD 0) K u) u aa;cases ay with|none=>exact DZ C i a7 r.tail _ k s t a8 J a9 K u m (λaM aB=>by cases aB;exact ax.mono m) b|some aB=>simp only[]at b;split at b;(.exact DZ C i a7 r.tail _ k s t a8 J a9 K u m aA b);.cases b end
def gv(a:aH)(b:br):Prop:=∃c d,fy a b c d/\dp a.ai b.am=true
section
variable{n:aH}{l n5:br}
theorem gv.ae(a:gv n l):j l.ae=j l.am:=by
 obtain⟨_,_,b,_⟩:=a;exact b.ml
theorem gv.bK(a:gv n l):j l.bK=j l.am:=by
 obtain⟨_,_,b,_⟩:=a;exact b.lt
theorem gv.cz(a:gv n l):j l.cz=j l.am:=by
 obtain⟨_,_,b,_⟩:=a;exact b.oi
theorem gv.cJ(a:gv n l):j l.cJ=j l.am:=by
 obtain⟨_,_,b,_⟩:=a;exact b.mm
theorem gv.d8(a:gv n l):j l.d8=j l.am:=by
 obtain⟨_,_,b,_⟩:=a;exact b.lf
def gv.jh(a:gv n l):dp n.ai l.am=true:=by
 obtain⟨_,_,_,b⟩:=a;exact b
def gv.A6(b:gv n l):DV l.cz:=by
 obtain⟨c,c,a,_⟩:=b;intro b c;have:=a.cz b<|(by have:=a.oi;omega:b<j l.am);rw[gS,hm c]at this;simp only[ve]at this;rw[this];split;.omega
 .rename_i c b;have d:=a.arm c<|CD b;have a:=cp.tv.1 (by simpa using CE b);omega
def gv.Sa(b:gv n l)(c:e<j l.am)(a:0<=aP l.cJ e 0):(e:Int)<aP l.d8 e 0/\aP l.d8 e 0+j (bh n.ai<|aP l.cJ e 0)<=j l.am:=by
 obtain⟨d,d,a,_⟩:=b;have:=a.cJ e c;split at this;.omega
 .rename_i b c;obtain⟨_,d,e⟩:=this;have f:=a.arm b a3;have a:=CE c;simp only[kf]at a;rw[d,e];omega
def gv.step(f:dU n=true)(k:gv n l)(d:ab){a:b7}(o:0<=cU n l.am a)(g:fU n d l a=G n5):gv n n5/\n5.am=if gr a.af then l.am++[cU n l.am a]else l.am:=by
 obtain⟨h,e,p,c⟩:=k;have b:=zA f d a l h e p c o;have i:=b.2 n5 g;refine⟨?_,i⟩;rw[g]at b;cases j:jk n d e h a with|none=>rw[j]at b;exact b.1.elim|some q=>rw[j]at b;refine⟨q,e,b.1,?_⟩;rw[i];split;(.exact zp c<|(vf f a l.am c).jh m);.exact c
theorem gv.gk(e:dU n=true)(d:gv n l)(b:Int)(a:ab){c:Int}(f:b=8->0<=aP a 0 0/\aP a 0 0<j l.am/\0<=c):gv n (fR n l b a c)/\(fR n l b a c).am=l.am++(if b=8 then bh n.ai c else []):=by
 obtain⟨g,h,e,i⟩:=d;unfold fR;by_cases d:b=8;.obtain⟨b,k,m⟩:=f d;rw[bB d,bB d];(have f:((bh n.ai c).foldl (λ(o:br)p=>o.grow p 0<|aP a 0 0) {l with cJ:=l.cJ.set (aP a 0 0).toNat c,d8:=l.d8.set (aP a 0 0).toNat (j l.am)}).am=l.am++bh n.ai c:=by rw[r2]);exact⟨⟨_,_,(e.gk (aP a 0 0) c b k m),by grind[xj,zm,vd]⟩,f⟩
 .rw[be d,be d,nG];exact⟨⟨g,h,e,i⟩,u⟩
def gv.new(b:aH)(a:dK)(c:dp b.ai a.aC=true):gv b (jj a)/\(jj a).am=a.aC:=by
 have:=vm b a;exact⟨⟨_,_,this.1,a3⟩,this.2.2⟩
end
section
attribute [local go_sem↓]Go.wp_at_zero Go.wp_at_succ
theorem JW{b:aw}(a:Int):∀{c:ab}{d:de}(e:Nat),cw w i (b6 c).flatten d->cw b P (b6<|c.set e a).flatten (d.set e<|ag a)|[],[],_,_=>DP|[],_::_,_,b2=>tT|_::_,[],_,b2=>tT|d::e,f::g,0,c=>by have d:=c;exact⟨u,DW d.2⟩|c::g,d::i,e+1,f=>by have vG:=f;(have f:a6 b P (.int c) d:=JK);exact⟨f,JW a e vG.2⟩
theorem JX:∀{a:ab}{b:de}(c:Nat),cw w i (b6 a).flatten b->cw w i (b6<|a.take c).flatten (b.take c)|[],[],_,_=>a3|[],_::_,_,b2=>tT|_::_,[],_,b2=>tT|a::b,c::d,0,e=>DP|a::d,e::f,b+1,c=>by have a:=c;exact⟨a.1,JX b a.2⟩
section
variable{a0:aw}{b9:Nat}{A:a5}{E:bJ}{z:ab}{b n du cN:Nat}{v:ay}
def aU.gw(l:aU a0 b9 A E 1 v (b6 z))(d:cN<j z):∃b h,v=q (aX b 0) (j z) h/\b<x A.heap/\j z<=h/\aZ A b cN (ag z[cN])/\A.frozen? (bs b cN)=false:=by
 obtain⟨⟨c,a,e⟩,i,n⟩:=l;rw[cP]at a;have f:j z≠0:=m;have g:cw (aF v++a0) A ((z.map λo=>D.int o)) c:=by(have p:(b6 z).flatten=z.map λr=>D.int r:=by clear a e i d f;induction z with|nil=>rfl|cons s t k=>simp only[b6,h0,lG,j0,j1]at k⊢;rw[k]);rwa [p]at e
 have k:c[cN]?=G (ag z[cN]):=by clear a e i n f;induction z generalizing c cN with|nil=>simp at d|cons p C r=>cases c with|nil=>exact g.elim|cons s t=>have y:s=ag p:=g.1;cases cN with|zero=>simp[y]|succ F=>simpa using r (by simpa using d) t g.2
 rcases a.2 with⟨_,p⟩|⟨r,s,C,rfl,F,t,y,H,I,J⟩;.exact absurd p f
 .exact⟨r,s,u,(fq.1 t).1,y,(a.cellAt cN m).trans k,a.frozenAt cN⟩
def aU.A7(d:aU a0 b9 A E 1 (q (aX b 0) n du) (b6 z))(a:Nat)(c:Int):aU a0 b9 (bX A (bs b a)<|ag c) E 1 (q (aX b 0) n du) (b6<|z.set a c):=by
 obtain⟨⟨e,hv,f⟩,k,h⟩:=d;rw[cP]at hv;have i:n=j z:=vK;subst i;refine⟨⟨e.set a<|ag c,by rw[cP,ks];exact(hv.stored a<|ag c).1,JW c a f⟩,iZ _,h⟩
def aU.Sb(d:aU a0 b9 A E 1 (q R n du) (b6 z))(a:Nat)(v:a<=j z):aU a0 b9 A E 1 (q R a du) (b6<|z.take a):=by
 obtain⟨⟨e,b,x⟩,y,C⟩:=d;rw[cP]at b;have f:j (z.take a)=a:=aB;have D:aF (q R a du)=aF (q R n du):=by cases R<;>rfl
 refine⟨⟨e.take a,?_,by grind[JX]⟩,iZ _,a3⟩;rw[cP,f];refine⟨by rw[D1,b.1];omega,?_⟩;rcases b.2 with⟨c,F⟩|⟨g,H,h,c,i,k,I,l,o,p⟩;.grind
 .injection c with r s t;subst r s t;refine bj ⟨g,du,h,u,i,k,m,l,o,?_⟩;rw[<-p,List.take_take];congr 1;omega
end
section
variable{a0:aw}{aA A:a5}{p:Nat}{cX:bJ}{e1:de}{cH:List ab}{av:Nat}{v g6:ay}{z xX:ab}
def hx.field(a:hx a0 aA A p cX e1 cH)(C:av<j cH)(n:e1[av]?=G v)(o:aU (p::a0) (x aA.heap) A 3 1 g6 (b6 xX))(F:∀(c:Nat)d,av≠c->e1[c]?=G d->∀e,e∈aF g6->e∉aF d):hx a0 aA (bX A (bs p av) g6) p cX (e1.set av g6) (cH.set av xX):=by
 have q:=(tW.1 n).1;have r:∀{f:ay}{g:ab},aU (p::a0) (x aA.heap) A 3 1 f (b6 g)->aU (p::a0) (x aA.heap) (bX A (bs p av) g6) 3 1 f (b6 g):=λs=>s.a9 ((ap.setCell (aM a8) _:H [p] A (bX A (bs p av) g6))) a3;refine⟨?_,?_,?_,?_,a.a9.setCell (bj a.fE) _,a.fE⟩;.rw[fl a.cQ];simp
 .intro b l m h k;by_cases t:av=b;(.grind);.rw[oy t]at h k;exact r<|a.ae b l m h k
 .intro b h t u y k l m z D E;rw[ks]at k;by_cases B:av=b;(.grind);.rw[oy B]at l;by_cases B:av=h;(.grind);.rw[oy B]at m;exact a.e4 b h t u y k l m z D E
 .intro h t b k l;rw[tX];by_cases m:av=h;(.subst m;rw[vJ q]at b;cases b;exact(o.lt k l).2);.rw[oy m]at b;exact a.pm h t b k l
def hx.put{b n du:Nat}(a:hx a0 aA A p cX e1 cH)(s:av<j cH)(h:e1[av]?=G (q (aX b 0) n du))(u:cH[av]?=G z)(c:Nat)(d:Int):hx a0 aA (bX A (bs b c)<|ag d) p cX e1 (cH.set av<|z.set c d):=by
 have k:=a.ae av _ z h u;have l:b∈aF (q (aX b 0) n du):=fm;refine⟨?_,?_,λv x y B C D=>a.e4 v x y B C (by simpa using D),λE F I J K=>by rw[tX];exact a.pm E F I J K,a.a9.setCell (bj (k.lt b l).1) _,a.fE⟩;.have:=a.cQ;exact(((ap.setCell (aM a8) _:H [b] A (bX A (bs b c)<|ag d))).block p a.lt (by simpa using((λcT=>k.e4 b l nI:p≠b)))).trans this
 .intro m o L f g;by_cases r:av=m;(.subst r;rw[vJ s]at g;rw[h]at f;cases f;cases g;exact k.A7 c d);.rw[oy r]at g;have t:=a.ae m o L f g;have R:b∉aF o:=a.e4 av m _ o r s h f b l;have M:H [b] A (bX A (bs b c)<|ag d):=ap.setCell (aM a8) _;refine(aU.a9 (a0:=b::p::a0) (t.aI λN O P=>?_) M a3).tail;rcases ek.1 P with rfl|Q;(.grind);.exact t.e4 N O Q
end
structure bQ(a0:aw)(A bN:a5):Prop where
 b:∀g,g∈a0->bN.heap[g]?=A.heap[g]?
 z:x A.heap<=x bN.heap
def bQ.refl(b:aw)(a:a5):bQ b a a:=⟨λ_ _=>u,cF _⟩
theorem bQ.trans{a:a5}(b:bQ w i P)(c:bQ w P a):bQ w i a:=⟨λa d=>(c.b a d).trans<|b.b a d,fB b.z c.z⟩
def bQ.less{a:aw}(b:bQ w i P)(d:∀c,c∈a->c∈w):bQ a i P:=⟨λa c=>b.b a<|d a c,b.z⟩
theorem bQ.dW(a:H [] i P)(c:∀b,b∈w->b<i.heap.size):bQ w i P:=⟨λb d=>a.block b (c b d) a8,a.size⟩
def bQ.cell(b:bQ w i P)(c:aZ i e J K)(d:e∈w):aZ P e J K:=(zb (a:=bs e J)<|b.b e d).trans c
structure jo(a0:aw)(aA A:a5)(p:Nat)(l:br)(aG:ab)(e1:de):Prop where
 g:hx a0 aA A p 96 e1 [l.am,l.ae,l.cz,l.cJ,l.d8,l.bK,aG]
 kV:p∉a0
 lt:∀g,g∈a0->g<x A.heap
def eB(a:aw)(b c:a5)(d:Nat)(e:br)(f:ab):Prop:=∃g h i j k l m,jo a b c d e f [g,h,i,j,k,l,m]
theorem jo.I{A:a5}{b:de}(a:jo w i A e W L b)(c:H [] A P):jo w i P e W L b:=⟨a.g.I c,a.kV,λb d=>dF (a.lt b d) c.size⟩
theorem eB.I{A:a5}(a:eB w i A e W L)(b:H [] A P):eB w i P e W L:=by
 obtain⟨c,d,e,f,g,h,i,j⟩:=a;exact⟨c,d,e,f,g,h,i,j.I b⟩
theorem eB.a9{a0:aw}{A:a5}(a:eB a0 i A e W L):H [] i A:=by
 obtain⟨c,c,c,c,c,c,c,b⟩:=a;exact b.g.a9
theorem eB.lt{a0:aw}(b:eB a0 i P e W L):∀a,a∈a0->a<x P.heap:=by
 obtain⟨c,c,c,c,c,c,c,a⟩:=b;exact a.lt
def hx.more{m:aw}{wx:a5}{n:de}{o:List ab}(b:hx w i P e T n o)(p:H [] P wx)(q:∀h,h∈m->h∈w\/x P.heap<=h):hx m i wx e T n o:=by
 have a:=b.I p;refine⟨a.cQ,λc d j f k=>(a.ae c d j f k).aI λg l r=>?_,a.e4,a.pm,a.a9,a.fE⟩;rcases ek.1 r with rfl|s;.exact(b.ae c d j f k).e4 g l a8
 .rcases q g s with a|a;(.exact(b.ae c d j f k).e4 g l<|gb _ a);.have:=b.pm c d f g l;omega
theorem jo.more{c:aw}{wx:a5}{d:de}(a:jo w i P e W L d)(f:H [] P wx)(g:∀b,b∈c->b∈w\/(x P.heap<=b/\b<x wx.heap)):jo c i wx e W L d:=by
 refine⟨a.g.more f a3,λd=>?_,λc h=>?_⟩;.rcases g e d with b|b;(.exact a.kV b);.have:=a.g.lt;omega
 .rcases g c h with b|b;(.have:=a.lt c b;have:=f.size;omega);.exact b.2
theorem eB.more{b:aw}{wx:a5}(c:eB w i P e W L)(d:H [] P wx)(f:∀a,a∈b->a∈w\/(x P.heap<=a/\a<x wx.heap)):eB b i wx e W L:=by
 obtain⟨a,b,e,g,h,i,j,k⟩:=c;exact⟨a,b,e,g,h,i,j,k.more d f⟩
def eB.less{a:aw}(c:eB w i P e W L)(b:∀b,b∈a->b∈w):eB a i P e W L:=c.more ap a3
def eR(b:aw)(c d:a5)(f:Nat)(g:ab)(h:Option br)(e:Ending)(a:a5):Prop:=match h with|F=>e=bg (.bool false)/\H [] c a/\bQ b d a|G h=>e=bg (.bool true)/\eB b c a f h g/\bQ b d a
def eR.no{a:a5}{b:Option br}(b2:b=F)(ef:H [] i a)(cf:bQ w P a):eR w i P e L b (bg<|.bool false) a:=E0
def eR.yes{a:a5}{b:Option br}{l:br}(b2:b=G l)(ef:eB w i a e l L)(cf:bQ w P a):eR w i P e L b (bg<|.bool true) a:=E0
theorem jo.put{mt:br}{f:de}{av b n du:Nat}{z:ab}(a:jo w i P e W L f)(s:av<7)(h:f[av]?=G (q (aX b 0) n du))(j:[W.am,W.ae,W.cz,W.cJ,W.d8,W.bK,L][av]?=G z)(c:Nat)(d:Int)(o:[mt.am,mt.ae,mt.cz,mt.cJ,mt.d8,mt.bK,L]=[W.am,W.ae,W.cz,W.cJ,W.d8,W.bK,L].set av (z.set c d)):jo w i (bX P (bs b c)<|ag d) e mt L f/\bQ w P (bX P (bs b c)<|ag d):=by
 have k:=a.g.put a3 h j c d;rw[<-o]at k;refine⟨⟨k,a.kV,λp r=>by rw[tX];exact a.lt p r⟩,λg l=>?_,a8⟩;refine((ap.setCell (aM a8) _:H [b] P (bX P (bs b c)<|ag d))).block g (a.lt g l) λm=>?_;simp at m;subst m;exact(a.g.ae av _ z h j).e4 g fm<|gb _ l
def jZ{a b c d f:ay}(g:i.heap[e]?=G (au #[K,S,a,b,c,d,f] T (0,0)))(a:Nat):i.frozen? (bs e a)=false:=JO i e a _ T g
section
variable{c2:Array Oper}{jK:List Oper}{o:Oper}{a:Act}{dc:Exit->Act->a5->Prop}{a0:aw}{aA A wx:a5}{p:Nat}{cX:bJ}{e1:de}{cH:List ab}{av:Nat}{v:ay}{z:ab}
def vL(L:o.guard=F)(m n:Operand)(M:o.op= .call {callee:= .builtin .append,args:= #[m,n],argTypes:= #[34,34]})(c:Int)(d:hx a0 aA A p cX e1 cH)(r:H [] A wx)(N:av<j cH)(y:e1[av]?=G v)(B:cH[av]?=G z)(O:∀C,C∈a0->C<x A.heap)(Y:p∉a0)(Z:j z<=1073741824)(P:a.eval m=v)(R:a.eval n=q (aX e 0) 1 1)(S:x wx.heap=e)(U:∀g h k,k.heap[p]?=G (au e1.toArray cX (0,0))->hx a0 aA (bX k (bs p av)<|q g (j z+1) h) p cX (e1.set av<|q g (j z+1) h) (cH.set av<|z++[c])->bQ a0 A (bX k (bs p av)<|q g (j z+1) h)->wpList aK c2 dc jK (a.put o.dst<|q g (j z+1) h) k):wpList aK c2 dc (o::jK) a (aY wx<|au #[ag c] 3):=by
 subst S;have a1:=r.size;have V:=d.lt;have l:=d.ae av v z y B;have b:H [] A (aY wx<|au #[ag c] 3):=r.alloc _;have D:∀E,E∈p::a0->E<x wx.heap:=λa2 a4=>a3;refine kd L m n _ M (p::a0) (x aA.heap) 3 (ag 0) 1 8 f7 eZ u bi v (b6 z) P (l.I b) (q (bU wx 0) 1 1) (b6 [c]) R (a6.new (bD:=b6 [c]) (iZ _) ⟨u,bA⟩ (qX (l.I r) D) tl) (iZ _) v8 v8 (by have:=d.a9.size;simp;omega) (λW X=>by have:=D W X;simp;omega) ?_;intro a5 s t f;rw[pZ]at t;obtain⟨I,J,K⟩:=t.cv;rw[cP,eV]at K;subst K;refine U I J s ?_ (d.push b N y B t f) ⟨λc e=>?_,by have g:=f.a9.size;have g:=b.size;rw[tX];omega⟩;.have g:p∉aF v:=λh=>l.e4 p h a8;exact(f.a9.block p (by have:=b.size;omega) g).trans<|(b.block p V a8).trans d.cQ
 have d:=O c e;have g:H [p] s (bX s (bs p av)<|q I (j z+1) J):=ap.setCell (aM a8) _;exact(g.block c (by have:=f.a9.size;have:=b.size;omega) a3).trans<|(f.a9.block c (by have:=b.size;omega) (λf=>l.e4 c f<|gb _ e)).trans<|b.block c d a8
end
def E1(d b:a5)(c:Nat)(a:br)(e:ab)(n o p:Int)(g:eB w d b c a e)(B:j a.am<=1073741824)(C:j a.ae<=1073741824)(E:j a.cz<=1073741824)(F:j a.cJ<=1073741824)(G:j a.d8<=1073741824)(H:j a.bK<=1073741824):aR aK 122 #[f6 c 0,ag n,ag o,ag p] b λh f=>h=bg (.tuple #[])/\eB w d f c (a.grow n o p) e/\bQ w b f:=by
 obtain⟨b,I,J,K,L,M,b,m⟩:=g;obtain⟨N,b,c⟩:=bb m.g m.kV m.lt;obtain⟨d,e,f,g,h,k,l⟩:=eq m.g.cQ;clear m;go_enter func122,ntmps122;go_wp2_with(first|(at_builtin;refine vL u _ _ u n N ap (av:=0) a8 u u c b B u u a8 ?_;intro m m m m A D;have q:=y D;obtain⟨O,P⟩:=aq (λa0 a1=>dF (c a0 a1) q.z) A;obtain⟨d,e,f,g,h,k,l⟩:=eq m;have a0:=jZ m 0;clear m A D)|(at_builtin;refine vL u _ _ u o P ap (av:=1) (v:=I) (z:=a.ae) a8 u u O b C u u a8 ?_;intro m m m m A D;have r:=y<|q.trans D;obtain⟨Q,R⟩:=aq (λa0 a1=>dF (c a0 a1) r.z) A;obtain⟨d,e,f,g,h,k,l⟩:=eq m;have a0:=jZ m 1;clear m A D)|(at_builtin;refine vL u _ _ u p R ap (av:=2) (v:=J) (z:=a.cz) a8 u u Q b E u u a8 ?_;intro m m m m A D;have s:=y<|r.trans D;obtain⟨S,T⟩:=aq (λa0 a1=>dF (c a0 a1) s.z) A;obtain⟨d,e,f,g,h,k,l⟩:=eq m;have a0:=jZ m 2;clear m A D)|(at_builtin;refine vL u _ _ u (-1) T ap (av:=3) (v:=K) (z:=a.cJ) a8 u u S b F u u a8 ?_;intro m m m m A D;have t:=y<|s.trans D;obtain⟨U,V⟩:=aq (λa0 a1=>dF (c a0 a1) t.z) A;obtain⟨d,e,f,g,h,k,l⟩:=eq m;have a0:=jZ m 3;clear m A D)|(at_builtin;refine vL u _ _ u (-1) V ap (av:=4) (v:=L) (z:=a.d8) a8 u u U b G u u a8 ?_;intro m m m m A D;have w:=y<|t.trans D;obtain⟨W,X⟩:=aq (λa0 a1=>dF (c a0 a1) w.z) A;obtain⟨d,e,f,g,h,k,l⟩:=eq m;have a0:=jZ m 4;clear m A D)|(at_builtin;refine vL u _ _ u (-1) X ap (av:=5) (v:=M) (z:=a.bK) a8 u u W b H u u a8 ?_;intro m m m m A D;have x:=y<|w.trans D;obtain⟨Y,Z⟩:=aq (λa0 a1=>dF (c a0 a1) x.z) A;obtain⟨d,e,f,g,h,k,l⟩:=eq m;have a0:=jZ m 5;clear m A D));go_end0;exact⟨u,⟨_,_,_,_,_,_,_,Z,b,Y⟩,x⟩
def E2(n d:a5)(e:Nat)(a:br)(o:ab)(c:Nat)(v:eB w n d e a o)(h:c<j a.ae)(p:dP a.ae 1099511627776):aR aK 123 #[f6 e 0,ag c] d (λx q=>eR w n d e o ((d9 a.ae c).map λA=>{a with ae:=A}) x q/\q.heap[e]?=d.heap[e]?):=by
 obtain⟨K,B,L,M,N,O,P,f⟩:=v;obtain⟨Q,R,S,T,U,V,W⟩:=eq f.g.cQ;obtain⟨g,X,rfl,Y,Z,a0,a1⟩:=(f.g.ae 1 B a.ae u u).gw h;have k:=y (λr=>f.put (mt:={a with ae:=a.ae.set c r}) (av:=1) a8 u u c r u);have a2:=p _<|dV h;obtain⟨s,C,D⟩:=bb (by simp only[d9,kJ,gS,hm h,ve];split<;>rfl:((d9 a.ae c).map λE=>{a with ae:=E})=if a.ae[c]<1 then F else G {a with ae:=a.ae.set c (a.ae[c]- 1)}) f.g.a9 (λ(t:ay)=>show(bX d (bs g c) t).drew.heap[e]?=d.heap[e]? from(ap.setCell (aM a8) _:H [g] d (bX d (bs g c) t)).block e f.g.lt (λa4=>(f.g.ae 1 _ a.ae u u).e4 g fm a3));clear f p;generalize a.ae[c]=f at*;generalize((d9 a.ae c).map λJ=>{a with ae:=J})=a6 at*;by_cases d:f<1;.go_enter E3,E4;go_wp2;go_ret;exact⟨eR.no (by rw[s.h,bB d]) C<|bQ.refl _ _,u⟩
 .go_enter E3,E4;go_wp2;go_region;all_goals go_wp2;go_ret;exact⟨eR.yes (l:={a with ae:=a.ae.set c (f - 1)}) (by rw[s.h];exact be m) ⟨_,_,_,_,_,_,_,(k<|f - 1).1.I ap.drew⟩ ⟨(k<|f - 1).2.b,(k<|f - 1).2.z⟩,D _⟩
end
section
variable{a0:aw}{A wx bN:a5}{b9 E5:Nat}{E:bJ}{ch:Nat}{cG v:ay}{bD:List cq}
def aU.beside(b:aU (aF v++a0) E5 A E ch cG bD)(c:H (aF v) A bN)(a:∀a,a∈aF K->a∈aF v\/x A.heap<=a):aU (aF K++a0) E5 bN E ch cG bD:=by
 refine(((b.sub a3:aU (aF K++(aF v++a0)) E5 A E ch cG bD)).a9 c a3).sub λa a=>aM ?_;rcases cI.1 a with b|b;.grind
 .grind
def E6{a:D}(c:a6 (aF v++a0) A a K)(d:H (aF v) A bN)(b:∀b,b∈aF S->b∈aF v\/x A.heap<=b):a6 (aF S++a0) bN a K:=by
 refine(((c.sub a3:a6 (aF S++(aF v++a0)) A a K)).a9 d a3).sub λa a=>aM ?_;rcases cI.1 a with b|b;.grind
 .grind
def sy{a:aw}(b2:aU a b9 A E ch cG bD)(b:∀a,a∈a0->a<x A.heap):∀a,a∈aF cG++a0->a<x A.heap:=λg aL=>Sc
def JY{a:D}(b:a6 (aF cG++(aF v++a0)) A a K):a6 (aF v++(aF cG++a0)) A a K:=b.sub a3
def aU.bn{wr:a5}(a:aU a0 (x i.heap) wr E ch v bD)(b:H [] i wx)(c:H (aF v) wx bN):H [] i bN:=b.trans c λb c=>bj (a.lt b c).1
end
section
variable{bG:Program}{c2:Array Oper}{jK:List Oper}{o:Oper}{a:Act}{dc:Exit->Act->a5->Prop}{wx:a5}
structure n6(a0:aw)(b9:Nat)(wx bN:a5)(E:bJ)(ch:Nat)(eS g6:ay)(bD:List cq):Prop where
 ae:aU a0 b9 bN E ch g6 bD
 a9:H (aF eS) wx bN
 dA:∀g,g∈aF g6->g∈aF eS\/x wx.heap<=g
def g9(B:o.guard=F)(n p:Operand)(i:bJ)(C:o.op= .call {callee:= .builtin .append,args:= #[n,p],argTypes:= #[i,i]})(d:aw)(l:Nat)(b:bJ)(r:ay)(c s:Nat)(D:bG.underlying i=G (.slice b))(E:(bG.info? b).map (λu=>(u.zero,u.size,u.bytes))=G (G r,c,s))(I:r.cells.size=c)(J:0<c)(eS:ay)(m:List cq)(v:aU d l wx b c eS m)(f:Nat)(K:j m=f)(t:Array ay)(h:cq)(R:j h=c)(S:cw (aF eS++d) wx h t.toList)(fL:∀w,w∈d->w<x wx.heap)(T:l<=x wx.heap)(U:(f+1)*s<=140737488355328)(V:f+1<=140737488355328)(L:a.eval n=eS)(N:a.eval p=q (aX e 0) 1 1)(O:x wx.heap=e)(k:∀y z A,n6 d l wx A b c eS (q y (f+1) z) (m++[h])->wpList bG c2 dc jK (a.put o.dst<|q y (f+1) z) A):wpList bG c2 dc (o::jK) a (aY wx<|au t b):=by
 subst O K;have A8:H [] wx (aY wx<|au t b):=ap.alloc _;refine kd B n p i C d l b r c s D E I J eS m L (v.I A8) (q (bU wx 0) 1 1) [h] N (a6.new (bD:=[h]) a3 a3 (qX v fL) a8) a3 a3 a3 aB (λg aL=>JZ) ?_;exact Sd
def vM(B:o.guard=F)(p r:Operand)(l:bJ)(C:o.op= .call {callee:= .builtin .append,args:= #[p,r],argTypes:= #[l,l]})(c:aw)(m:Nat)(d:bJ)(s:ay)(b t:Nat)(D:bG.underlying l=G (.slice d))(E:(bG.info? d).map (λv=>(v.zero,v.size,v.bytes))=G (G s,b,t))(H:s.cells.size=b)(I:0<b)(e:ay)(n:List cq)(J:aU c m wx d b e n)(f h:Nat)(K:j n=f)(u:ay)(i:List cq)(L:j i=h)(M:a6 (aF e++c) wx (.arr b i) u)(N:∀W∈i,j W=b)(O:∀w,w∈c->w<x wx.heap)(R:m<=x wx.heap)(S:(f+h)*t<=140737488355328)(T:f+h<=140737488355328)(U:a.eval p=e)(V:a.eval r=u)(k:∀y z A,n6 c m wx A d b e (q y (f+h) z) (n++i)->wpList bG c2 dc jK (a.put o.dst<|q y (f+h) z) A):wpList bG c2 dc (o::jK) a wx:=by
 subst K L;refine kd B p r l C c m d s b t D E H I e n U J u i V M N S T R O ?_;exact Se
def jp{v:Act->a5->Prop}{C:Prop}(D:o.guard=F)(n p:Operand)(i:bJ)(E:o.op= .call {callee:= .builtin .append,args:= #[n,p],argTypes:= #[i,i]})(d:aw)(l:Nat)(b:bJ)(r:ay)(c s:Nat)(I:bG.underlying i=G (.slice b))(J:(bG.info? b).map (λu=>(u.zero,u.size,u.bytes))=G (G r,c,s))(K:r.cells.size=c)(L:0<c)(eS:ay)(m:List cq)(w:aU d l wx b c eS m)(f:Nat)(N:j m=f)(t:Array ay)(h:cq)(T:j h=c)(U:cw (aF eS++d) wx h t.toList)(fL:∀y,y∈d->y<x wx.heap)(V:l<=x wx.heap)(W:(f+1)*s<=140737488355328)(X:f+1<=140737488355328)(O:a.eval n=eS)(R:a.eval p=q (aX e 0) 1 1)(S:x wx.heap=e)(k:∀z A B,n6 d l wx B b c eS (q z (f+1) A) (m++[h])->v (a.put o.dst<|q z (f+1) A) B):if Region.wanted o (yielded c2 a.tmps)=true then Oper.wp bG o a (aY wx<|au t b) v dc else C:=by
 subst S N;have A8:H [] wx (aY wx<|au t b):=ap.alloc _;refine step_append D n p i E d l b r c s I J K L eS m O (w.I A8) (q (bU wx 0) 1 1) [h] R (a6.new (bD:=[h]) a3 a3 (qX w fL) a8) a3 a3 a3 aB (λg aL=>JZ) ?_;exact Sd
def K0{w:Act->a5->Prop}{C:Prop}(D:o.guard=F)(p r:Operand)(l:bJ)(E:o.op= .call {callee:= .builtin .append,args:= #[p,r],argTypes:= #[l,l]})(c:aw)(m:Nat)(d:bJ)(s:ay)(b t:Nat)(H:bG.underlying l=G (.slice d))(I:(bG.info? d).map (λv=>(v.zero,v.size,v.bytes))=G (G s,b,t))(J:s.cells.size=b)(K:0<b)(e:ay)(n:List cq)(L:aU c m wx d b e n)(f h:Nat)(M:j n=f)(u:ay)(i:List cq)(N:j i=h)(O:a6 (aF e++c) wx (.arr b i) u)(R:∀Y∈i,j Y=b)(S:∀y,y∈c->y<x wx.heap)(T:m<=x wx.heap)(U:(f+h)*t<=140737488355328)(V:f+h<=140737488355328)(W:a.eval p=e)(X:a.eval r=u)(k:∀z A B,n6 c m wx B d b e (q z (f+h) A) (n++i)->w (a.put o.dst<|q z (f+h) A) B):if Region.wanted o (yielded c2 a.tmps)=true then Oper.wp bG o a wx w dc else C:=by
 subst M N;refine step_append D p r l E c m d s b t H I J K e n W L u i X O R U V T S ?_;exact Se
end
theorem n6.bn{wx:a5}{a b:List cq}(c:n6 w (x i.heap) wx P T e K S b)(b:aU w (x i.heap) wx T e K a)(a:H [] i wx):H [] i P:=b.bn a c.a9
def kW:(prog.info? 47).map (λa=>(a.zero,a.size,a.bytes))=G (G (aO #[ag 0,ag 0,ag 0,q F 0 0,q F 0 0]),5,72):=cB
def xY:(prog.info? 38).map (λa=>(a.zero,a.size,a.bytes))=G (G (aO #[q F 0 0,ag 0]),2,32):=cB
def rh:(prog.info? 40).map (λa=>(a.zero,a.size,a.bytes))=G (G (aO #[q F 0 0,q F 0 0,ag 0,q F 0 0,ag 0]),5,88):=cB
def i8.enc{a:b7}(b:dn w i a R e Z J):cw w i (dC a) [ag a.af,ag a.an,ag a.b1,q R (j a.ak) e,q Z (j a.a7) J]:=by
 rw[zl];exact⟨u,u,u,b.a,b.k,bA⟩
def aU.new1{bz:aw}(a:aU w e i T 1 K (b6 L))(c:∀b,b∈bz->b<e):aU bz e i T 1 K (b6 L):=a.aI λb d e=>by have:=(a.lt b d).1;have:=c b e;omega
structure er where
 E:bJ
 ch:Nat
 v:ay
 bD:List cq
def dw:List er->aw|[]=>[]|a::b=>aF a.v++dw b
theorem kX:∀{l:List er},e∈dw l↔∃a∈l,e∈aF a.v|[]=>by simp[dw]|b::a=>by simp[dw,kX (l:=a)]
def tY{a:List er}:e∈dw (a.eraseIdx J)↔∃b c,b≠J/\a[b]?=G c/\e∈aF c.v:=by grind[kX,List.mem_eraseIdx_iff_getElem?]
def dy(d:aw)(e:Nat)(f:a5)(b:List er):Prop:=∀(c:Nat)(a:er),b[c]?=G a->aU (dw (b.eraseIdx c)++d) e f a.E a.ch a.v a.bD
section
variable{a0:aw}{b9:Nat}{A fS wx bN:a5}{l:List er}
theorem dy.I(a:dy a0 b9 A l)(b:H [] A bN):dy a0 b9 bN l:=λc d e=>(a c d e).I b
theorem dy.nil(a:aw)(b:Nat)(c:a5):dy a b c []:=λa a a=>a3
def dy.at(c:dy a0 b9 A l)(b:Nat){a:er}(d:l[b]?=G a):aU (dw (l.eraseIdx b)++a0) b9 A a.E a.ch a.v a.bD:=c b a d
theorem dy.lt(b:dy a0 b9 A l):∀a,a∈dw l->b9<=a/\a<x A.heap:=λc d=>by obtain⟨i,e,f⟩:=kX.1 d;obtain⟨g,h,rfl⟩:=mO e;exact(b g _<|hm h).lt c f
def dy.qk(b2:dy a0 b9 A l)(a:∀a,a∈a0->a<x A.heap):∀a,a∈dw l++a0->a<x A.heap:=λg aL=>Sc
def dy.pn(b:dy a0 b9 A l)(c:Nat)(a:∀a,a∈a0->a<x A.heap):∀a,a∈dw (l.eraseIdx c)++a0->a<x A.heap:=λc d=>by rcases cI.1 d with a|a;(.obtain⟨e,f,_,g,h⟩:=tY.1 a;exact((b e f g).lt c h).2);.grind
theorem dy.set(f:dy a0 b9 fS l){av:Nat}{a k0:er}(d:l[av]?=G a){wx:a5}(g:H [] fS wx)(h:H (aF a.v) wx i)(j:∀b,b∈aF k0.v->b∈aF a.v\/x fS.heap<=b)(c:aU (dw (l.eraseIdx av)++a0) b9 i k0.E k0.ch k0.v k0.bD):dy a0 b9 i (l.set av k0):=by
 intro c i e;by_cases b:av=c;.grind
 .rw[oy b]at e;(have k:=(f c i e).sub λe f=>by rcases cI.1 f with c|c;(.exact(j e c).imp (λe=>hA _<|tY.2 ⟨av,a,b,d,e⟩) id);.exact aM c);refine((k.I g).a9 h λc c=>aM<|gQ _<|hA _<|tY.2 ⟨av,a,b,d,c⟩).sub λa d=>aM ?_;rcases cI.1 d with a|a;(.obtain⟨b,e,f,c,h⟩:=tY.1 a;by_cases a:av=b;(.grind);.rw[oy a]at c;exact gQ _<|hA _<|tY.2 ⟨b,e,f,c,h⟩);.grind
def dy.push(d:dy a0 b9 fS l)(b:H [] fS wx){av:Nat}{f c:List cq}(g:l[av]?=G ⟨T,e,K,f⟩)(a:n6 (dw (l.eraseIdx av)++a0) b9 wx bN T e K S c):dy a0 b9 bN (l.set av ⟨T,e,S,c⟩):=d.set g b a.a9 (λc d=>(a.dA c d).imp id λc=>fB b.size c) a.ae
def dy.snoc(d:dy a0 b9 fS l)(f:H [] fS bN){a:List cq}(b:aU (dw l++a0) b9 bN T e K a)(b:∀b,b∈aF K->x fS.heap<=b):dy a0 b9 bN (l++[⟨T,e,K,a⟩]):=by
 intro b e c;rcases la b (j l)with a|a;.rw[tk a]at c;rw[Sf a];refine((d b e c).sub λa b=>?_).I f;rcases cI.1 b with a|a;(.obtain⟨p,c,aL⟩:=kX.1 a;rcases cI.1 c with po|po;(. exact K1);.grind);.grind
 .grind
def dy.one{a:List cq}(d:aU a0 b9 A T e K a):dy a0 b9 A [⟨T,e,K,a⟩]:=by
 intro b f c;cases b with|zero=>grind[dw]|succ g=>simp at c
def dy.K2(d:dy a0 b9 A l)(f:∀a,a∈a0->a<x A.heap)(a:Nat){b:er}(g:l[a]?=G b):∀c,c∈aF b.v++(dw (l.eraseIdx a)++a0)->c<x A.heap:=λe h=>by rcases cI.1 h with c|c;(.exact((d a b g).lt e c).2);.exact d.pn a f e c
def dy.e3{b:aw}(c:dy a0 b9 A l)(d:H b A bN)(a:∀a,a∈b->a∈a0\/x A.heap<=a):dy a0 b9 bN l:=λa b e=>(c a b e).a9 d a3
theorem dy.dH{oU:Nat}(a:dy a0 b9 A l)(b:oU<=b9):dy a0 oU A l:=λc d e=>(a c d e).dH b
def dy.aI{bz:aw}{bH:ab}{cm:a5}(b:dy a0 b9 fS l)(e:∀d,d∈a0->d<x fS.heap)(f:b9<=x fS.heap)(a:H [] fS cm)(g:H [] cm bN)(c:aU bz (x cm.heap) bN T 1 K (b6 bH)):dy a0 b9 bN (l++[⟨T,1,K,b6 bH⟩]):=b.snoc (a.aa g) ((c.new1 λd g=>dF (b.qk e d g) a.size).dH<|fB f a.size) λb d=>fB a.size (c.lt b d).1
def dy.Sg(b:dy a0 b9 fS l)(d:∀a,a∈a0->a<x fS.heap)(f:b9<=x fS.heap){a:er}(g:l[e]?=G a)(a:H [] fS i)(h:H [] i bN)(c:aU w (x i.heap) bN T 1 K (b6 L)):dy a0 b9 bN (l.set e ⟨T,1,K,b6 L⟩):=b.set g (a.aa h) ((H.refl [] bN).cn) (λg h=>bj<|fB a.size (c.lt g h).1)<|(c.new1 λc g=>dF (b.pn e d c g) a.size).dH<|fB f a.size
def dy.erase(d:dy a0 b9 A l)(b:Nat):dy a0 b9 A (l.eraseIdx b):=by
 intro a c e;rw[List.getElem?_eraseIdx]at e;refine(d _ c<|(a3:l[if a<b then a else a+1]?=G c)).sub λc e=>aM ?_;rcases cI.1 e with c|c;.obtain⟨f,d,g,h,i⟩:=tY.1 c;obtain⟨j,c,k⟩:=((λc c c c=>a3:∀c,c≠a->∀e,(l.eraseIdx b)[c]?=G e->∃c,(if a<b then a else a+1)≠c/\l[c]?=G e)) f g d h;exact hA _<|tY.2 ⟨j,d,a3,k,i⟩
 .grind
theorem dy.sub{bz:aw}(b:dy a0 b9 A l)(a:∀a,a∈bz->a∈a0\/x A.heap<=a):dy bz b9 A l:=λa c d=>(b a c d).sub a3
end
def ql(a:ab)(b:Int):b6 (a++[b])=b6 a++[[.int b]]:=tl
theorem e9.sz:∀(a:List cq)(k b:Nat),e9 w i e J a b->e9 w i e J (a.take k) b|[],a,b,c=>a3|a::b,0,c,d=>by simp[e9]|d::b,c+1,e,a=>by simp only[e9,DU]at a⊢;exact⟨a.1,a.2.1,e9.sz b c _ a.2.2⟩
theorem e9.vN:∀(a:List cq)(k b:Nat),e9 w i e J a b->e9 w i e J (a.drop k) (b+k*e)|[],a,b,c=>by simp[e9]|a::b,0,c,d=>a3|f::d,a+1,b,c=>by simp only[e9]at c;have:=e9.vN d a _ c.2.2;rw[K3];rwa [show b+(a+1)*e=b+e+a*e by rw[s5];omega]
theorem a6.sz{a:List cq}(b:a6 w i (.arr e a) (q R J Q)){k c:Nat}(d:k<=j a)(f:k<=c)(g:c<=9223372036854775807):a6 w i (.arr e<|a.take k) (q R k c):=by grind[a6,e9.sz]
theorem a6.vN{a:List cq}{b:Nat}(d:a6 w i (.arr e a) (q (G ⟨J,Q,Option.none⟩) V b)){k c:Nat}(f:k<=j a)(g:j a - k<=c)(h:c<=9223372036854775807):a6 w i (.arr e<|a.drop k) (q (G ⟨J,Q+k*e,Option.none⟩) (j a - k) c):=by grind[a6,e9.vN]
section
attribute [local go_sem↓]Go.wp_at_zero Go.wp_at_succ
def xZ(b:a5)(a:ab)(f:Ending)(c:a5):Prop:=∃d e,f=bg (q d (j a) e)/\H [] b c/\aU [] (x b.heap) c 3 1 (q d (j a) e) (b6 a)
def oz(cH:ab)(f:ay)(b:a5)(c:a6 w b (aI cH) f)(p:j cH<=1073741824):aR aK 56 #[f] b (xZ b cH):=by
 have gu:=y<|c.sub (bz:=[]) a8;obtain⟨k,d,rfl,r,s⟩:=bF c;clear c;cases k with|none=>(have e:cH=[]:=Sh);subst e;have e:(binOp .eql 34 (q F 0 d)<|q F 0 0).run aK b= .ok (.bool true) b:=ri b _ _ _ _ _ _ _ f7;go_enter func56,ntmps56;go_wp2;go_ret;exact⟨F,0,u,ap,aU.nil _ _ _ _ _⟩|some g=>have t:(binOp .eql 34 (a1 (G g) cH d)<|q F 0 0).run aK b= .ok (.bool false) b:=ri b _ _ _ _ _ _ _ f7;have m:=y<|aU.made ([]:aw) (x b.heap) b 3 1 (cF _) a8;go_enter func56,ntmps56;go_wp2_with(at_builtin;refine kd u _ _ 34 u [] (x b.heap) 3 (ag 0) 1 8 f7 eZ u bi (q (bU b 0) 0 0) [] u m (a1 (G g) cH d) (b6 cH) u ((gu.sub (λv aL=>bj vO)).alloc _) (iZ _) oX oX a8 a8 ?_;intro z A e h;obtain⟨n,o,i⟩:=e.cv;rw[j1,cP]at i;subst i;obtain⟨y0,c⟩:=aq e h;clear e h);go_ret;exact⟨n,o,u,(ap.alloc _).trans c.h.a9 (λe bv=>bj sA),A9⟩
def Si(a:∀a(b:a<j L),L[a]≠N):dN L N=false:=by grind[dN,List.any_eq_false,List.getElem_of_mem]
def Sj(a:ab)(b:Int)(h:ay)(d:a5)(e:a6 w d (aI a) h):aR aK 115 #[h,ag b] d λl n=>∃i:Int,l=bg (ag i)/\d=n/\dN a b=decide (0<=i):=by
 have o:=y e;obtain⟨s,t,rfl,v,x⟩:=bF e;clear e;go_enter func115,ntmps115;go_wp2;go_loop [8](λp=>∃f:Nat,f<=j a/\p=ag f/\∀g(z:g<j a),g<f->a[g]≠b)(λq=>j a -(intOf q).toNat);.grind
 obtain⟨c,A,rfl,k:aj _⟩:=hrel;by_cases r:c<j a;(.obtain⟨B,C,rfl,_,D,E⟩:=bY o r;by_cases d:b=a[c];(.have e:=y (by grind[dN,List.any_eq_true,List.getElem_mem]:dN a b=true);(have f:(b==a[c])=true:=a3);clear d;go_wp2;go_ret;exact⟨c,u,u,by rw[e.h];simp⟩);. (have e:(b==a[c])=false:=a3);have e:=y (λe=>d e.symm:a[c]≠b);clear d;go_wp2;go_round;(.exact⟨c+1,m,bf,λa d b=>by rcases Nat.lt_or_ge a c with b|b;(.exact k a d b);.grind⟩);exact bc);.go_wp2;go_ret;exact⟨-1,u,u,by rw[Si λa b=>k a b m];rfl⟩
def E7(b:ab)(c:Int)(d:ay)(a:a5)(e:a6 w a (aI b) d):aR aK 79 #[d,ag c] a λf g=>f=bg (.bool<|dN b c)/\a=g:=by
 have h:=y<|Sj b c d a e;obtain⟨i,j,rfl,k,l⟩:=bF e;clear e;go_enter func79,ntmps79;go_wp2_with(go_at_call 115;refine ad h ?_;rintro b b⟨b,rfl,rfl,a:aj _⟩);go_ret;exact⟨cS a.symm,u⟩
def rj{x:aw}(a b:ab)(l n:ay)(d:a5)(h:a6 w d (aI a) l)(i:a6 x d (aI b) n):aR aK 208 #[l,n] d (fi d<|.bool<|a==b):=by
 obtain⟨z,A⟩:=aq h i;obtain⟨G,I,rfl,_,_⟩:=bF h;obtain⟨J,K,rfl,_,_⟩:=bF i;clear h i;by_cases o:j a=j b;.have L:=y o;obtain⟨f,c⟩:=c4 (j b);(have e:j a=f:=m);obtain⟨p,q⟩:=aq e c;rw[e,<-c];clear o e c;go_enter func208,ntmps208;go_wp2;go_loopw [13](λB wr=>∃g:Nat,g<=f/\B=ag g/\a.take g=b.take g/\H [] d wr)(λC _=>f -(intOf C).toNat);(.grind[ap]);obtain⟨c,M,rfl,r:aj _,e:aj _⟩:=hrel;by_cases N:c<f;(. (have s:c<j a:=by have:=p.h;omega);(have t:c<j b:=by have:=q.h;omega);obtain⟨O,P,rfl,_,Q,R⟩:=bY (z.I e) s;obtain⟨S,T,rfl,_,U,V⟩:=bY (A.I e) t;obtain⟨D,E,F⟩:=bb (fX a c s) (fX b c t) (λ(W:a[c]≠b[c])=>show(a==b)=false by grind);generalize a[c]=u at*;generalize b[c]=v at*;by_cases k:u=v;(.subst k;go_wp2;go_region;all_goals go_wp2;go_roundw;(.exact⟨c+1,m,bf,by rw[D.h,E.h,r.h],e.drew⟩);exact bc);.have c:=y<|F k;(have d:(u !=v)=true:=a3);clear k;go_wp2;go_region;all_goals go_wp2;go_ret;exact⟨cS c.symm,e.drew⟩);.have c:=y (by have:=r.h;rw[k1 (by have:=p.h;omega),k1 (by have:=q.h;omega)]at this;simpa using this:(a==b)=true);go_wp2;go_ret;exact⟨cS c.symm,e⟩
 . (have c:((j a:Int)==j b)=false:=aB);(have c:((j a:Int)!=j b)=true:=aB);go_enter func208,ntmps208;go_wp2;go_ret;exact⟨cS (y (a3:(a==b)=false)).symm,ap⟩
def rk{a0:aw}(b c:Int)(a:a5)(d:∀e,e∈a0->e<x a.heap):aR aK 72 #[ag b,ag c] a λk e=>∃f h i j,k=bg (aO #[ag b,ag 0,ag 0,q f 1 h,q i 0 j])/\H [] a e/\dn a0 e (cu b c) f h i j:=by
 have cD:=y d;clear d;go_enter func72,ntmps72;go_wp2;refine cl (v:= .agg #[ag b,ag 0,ag 0,.slice (l9 a 1 0) 1 1,.slice (aX (a.heap.size+1+1) 0) 0 0]) (by simp[results,Tryz.results72,go_sem]) u ⟨_,_,_,_,u,((ap.alloc _).alloc _).alloc _,?_,(a6.nil _ _ _ _ _ m)⟩;.have d:=lH (a0:=a0) (A:=a.alloc (.cells #[ag b,ag 0,ag 0,.slice (l9 a 1 0) 1 1,.slice (aX (a.heap.size+1+1) 0) 0 0] 47)) (E:=3) [c] (λg aL=>j2) a8;rw[hq]at d;exact d.alloc _
def tZ{a0:aw}(c:Int)(n:ay)(a:ab)(A:a5)(h:a6 [] A (aI a) n)(N:j a<=1073741824)(o:∀p,p∈a0->p<x A.heap):aR aK 126 #[ag c,n] A (j3 a0 A 47 5<|(a.map<|cu c).map dC):=by
 obtain⟨B,cD⟩:=aq h o;obtain⟨O,P,rfl,_,_⟩:=bF h;clear h o;go_enter func126,ntmps126;go_wp2;go_loopw [5,6](λC D wr=>∃i:Nat,i<=j a/\D=ag i/\aU a0 (x A.heap) wr 47 5 C (((a.take i).map<|cu c).map dC)/\H [] A wr)(λ_ E _=>j a -(intOf E).toNat);. exact St
 obtain⟨b,Q,rfl,d:aj _,e:aj _⟩:=hrel;have I:=e.size;obtain⟨k,l,r⟩:=d.cv;(have f:j (((a.take b).map<|cu c).map dC)=b:=aB);rw[f]at r;subst r;have J:=y f;clear f;by_cases s:b<j a;(.obtain⟨z,M,rfl,_,_,R⟩:=bY (B.I e) s;obtain⟨K,L⟩:=aq (fX a b s) (qX d (λf v=>Nat.lt_of_lt_of_le (cD f v) I));generalize a[b]=t at*;go_wp2_with(first|(go_at_call 72;refine ad (rk (a0:=aF (.slice k b l)++a0) c t wr L) ?_;rintro z z⟨z,z,z,z,rfl,f:aj _,M:aj _⟩;have z:=f.size)|(at_builtin;refine g9 u _ _ _ u a0 (x A.heap) 47 (aO #[ag 0,ag 0,ag 0,q F 0 0,q F 0 0]) 5 72 lo kW u bi (q k b l) _ (d.I f) b J _ (dC<|cu c t) (jU _) (i8.enc M) (λg aL=>jR) m m m u u u ?_;intro z z z z;have v:=y z;clear z));go_roundw;(.refine⟨b+1,m,bf,?_,v.bn (d.I f)<|e.aa f⟩;rw[K.h,fO,fO];exact v.ae);exact bc);. (obtain rfl:b=j a:=m);have b:=y (by have:=d.h;grind:aU a0 (x A.heap) wr 47 5 (a1 k a l) ((a.map<|cu c).map dC));go_wp2;go_ret;exact⟨_,u,e,b⟩
def Ac{a0:aw}(c:Int)(d:ay)(b:ab)(a:a5)(f:a6 a0 a (aI b) d)(g:j b<=1073741824)(h:∀e,e∈a0->e<x a.heap):aR aK 126 #[ag c,d] a (j3 a0 a 47 5<|(b.map<|cu c).map dC):=tZ c d b a (f.sub a3) g h
def kt(a:aU w e i T 1 K (b6 L++[[.int N]])):aU w e i T 1 K (b6<|L++[N]):=v8
def K8(a:Int)(c:ab)(b:Int):gT (a::c) b=if b<a then b::a::c else if b=a then a::c else a::gT c b:=rfl
theorem ua:∀(a:ab)(b:Int),j (gT a b)<=j a+1|[],a=>by simp[gT]|c::a,b=>by rw[K8];have:=ua a b;grind
def y3{a0:aw}(A:ay)(c:ab)(b:Int)(d:a5)(t:a6 a0 d (aI c) A)(U:j c<=1073741824)(B:∀C,C∈a0->C<x d.heap):aR aK 167 #[A,ag b] d (j3 a0 d 3 1<|b6<|gT c b):=by
 obtain⟨M,cD⟩:=aq t B;obtain⟨V,W,rfl,_,_⟩:=bF t;clear t B;go_enter func167,ntmps167;go_wp2;go_loopw [5,6,7](λN O P wr=>∃(l:Nat)(v:Bool)(s:ab),l<=j c/\P=ag l/\O= .bool v/\j s<=l+1/\(v=false->j s<=l)/\aU a0 (x d.heap) wr 3 1 N (b6 s)/\H [] d wr/\s++(if v=true then c.drop l else gT (c.drop l) b)=gT c b)(λ_ _ Q _=>j c -(intOf Q).toNat);.exact⟨0,false,[],el _,u,u,a8,a8,aU.made a0 (x d.heap) d _ _ (cF _) cD,ap.alloc _,a8⟩
 obtain⟨h,D,a,X,rfl,rfl,Y,E:aj _,e:aj _,i:aj _,n:aj _⟩:=hrel;have Z:=i.size;obtain⟨o,p,F⟩:=e.cv;rw[cP]at F;subst F;by_cases G:h<j c;(.obtain⟨a2,a3,rfl,_,_,I:aj _⟩:=bY M G;have J:=y<|kh G;generalize c[h]=f at*;have R:=i.a2 I;cases D with|true=>go_wp2_with(at_builtin;refine g9 u _ _ _ u a0 (x d.heap) 3 (ag 0) 1 8 f7 eZ u bi (a1 o a p) (b6 a) e (j a) (cP _) _ [.int f] u ⟨u,bA⟩ (λg aL=>jR) m m m u u u ?_;intro k k k k;have r:=y k;clear k);go_roundw;(.exact⟨h+1,true,a++[f],m,bf,u,aB,a8,kt r.ae,r.bn e i,by rw[<-n.h,bB u,bB u,J.h];simp⟩);exact bc|false=>have a4:=E u;clear E;have k:=y (by rw[<-J.h,<-n.h];simp:a++gT (f::c.drop (h+1)) b=gT c b);clear n;rw[K8]at k;rcases(m:b<f\/b=f\/f<b)with r|r|r;(.rw[bB r]at k;go_wp2_with(first|(at_builtin;refine g9 u _ _ _ u a0 (x d.heap) 3 (ag 0) 1 8 f7 eZ u bi (a1 o a p) (b6 a) e (j a) (cP _) _ [.int b] u ⟨u,bA⟩ (λg aL=>jR) m m m u u u ?_;intro S T z z;obtain⟨K,w⟩:=aq (kt z.ae) (z.bn e i);have a7:=w.size;have R:=w.a2 I;clear z)|(at_builtin;refine g9 u _ _ _ u a0 (x d.heap) 3 (ag 0) 1 8 f7 eZ u bi (q S (j a+1) T) (b6<|a++[b]) K (j a+1) E9 _ [.int f] u ⟨u,bA⟩ (λg aL=>jR) m m m u u u ?_;intro z z z z;have L:=y z;clear z));go_roundw;(.exact⟨h+1,true,a++[b]++[f],m,bf,u,aB,a8,kt L.ae,L.bn K w,by rw[<-k.h,bB u];simp⟩);exact bc);(.rw[be m,bB r]at k;subst r;go_wp2_with(at_builtin;refine g9 u _ _ _ u a0 (x d.heap) 3 (ag 0) 1 8 f7 eZ u bi (a1 o a p) (b6 a) e (j a) (cP _) _ [.int b] u ⟨u,bA⟩ (λg aL=>jR) m m m u u u ?_;intro r r r r;have w:=y r;clear r);go_roundw;(.exact⟨h+1,true,a++[b],m,bf,u,aB,a8,kt w.ae,w.bn e i,by rw[<-k.h,bB u];simp⟩);exact bc);.rw[be m,be m]at k;go_wp2_with(at_builtin;refine g9 u _ _ _ u a0 (x d.heap) 3 (ag 0) 1 8 f7 eZ u bi (a1 o a p) (b6 a) e (j a) (cP _) _ [.int f] u ⟨u,bA⟩ (λg aL=>jR) m m m u u u ?_;intro z K L r;have w:=y r;clear r);go_roundw;(.exact⟨h+1,false,a++[f],m,bf,u,aB,aB,kt w.ae,w.bn e i,by rw[<-k.h,be a8];simp⟩);exact bc);. (obtain rfl:h=j c:=m);cases D with|true=>have f:=y (by rw[<-n.h,bB u,lp,nG]:a=gT c b);go_wp2;go_ret;exact⟨_,u,i,f▸e⟩|false=>have r:=y (by rw[<-n.h,be a8,lp];rfl:a++[b]=gT c b);go_wp2_with(at_builtin;refine g9 u _ _ _ u a0 (x d.heap) 3 (ag 0) 1 8 f7 eZ u bi (a1 o a p) (b6 a) e (j a) (cP _) _ [.int b] u ⟨u,bA⟩ (λg aL=>jR) m m m u u u ?_;intro w z I f;have k:=y f;clear f);go_ret;exact⟨_,u,k.bn e i,r▸kt k.ae⟩
def Su{a0:aw}(l:ay)(a:bC)(c:a5)(h:a6 a0 c (e6 a) l)(Q:j a<=1073741824)(n:∀w∈a,0<j w.ak)(o:∀p,p∈a0->p<x c.heap):aR aK 124 #[l] c (xb a0 c<|aI<|di a):=by
 obtain⟨z,cD,A⟩:=bb h o n;obtain⟨R,S,rfl,_,_⟩:=oZ h;clear h o n;go_enter func124,ntmps124;go_wp2;go_loopw [3,4](λB C wr=>∃d:Nat,d<=j a/\C=ag d/\a6 a0 wr (aI<|(a.take d).foldl (λD E=>gT D<|bR E) []) B/\j ((a.take d).foldl (λF I=>gT F<|bR I) [])<=d/\H [] c wr)(λ_ J _=>j a -(intOf J).toNat);.exact⟨0,Nat.zero_le _,u,by show a6 a0 _ (.arr 1 []) _;grind[a6.nil],a8,ap.alloc _⟩
 obtain⟨b,T,rfl,i:aj _,U,e:aj _⟩:=hrel;have V:=e.size;generalize k:(a.take b).foldl (λK L=>gT K<|bR L) []=f at*;have q:=y k;obtain⟨W,X,rfl,_⟩:=bF i;clear k;by_cases k:b<j a;(.obtain⟨Y,Z,a1,a2,a3,a4,rfl,a7,a9,aa,ab,ae,af,ah,r,M⟩:=jf (z.I e) k;have s:=A _<|dV k;obtain⟨ai,al,rfl,_,_,N⟩:=bY r s;(have t:a[b].ak[0]=bR a[b]:=by simp[bR,s]);rw[t,Nat.add_zero]at N;have v:=y (by rw[fX a b k,Ad,q.h];rfl:(a.take<|b+1).foldl (λO P=>gT O<|bR P) []=gT f (bR a[b]));clear r M t;generalize a[b]=r at*;have s:=ua f<|bR r;go_wp2_with(go_at_call 167;refine ad (y3 (a0:=a0) _ f (bR r) wr i m (λg aL=>jR)) ?_;rintro t t⟨t,rfl,s:aj _,r⟩;have t:=y r.bt;clear r);go_roundw;(.exact⟨b+1,m,bf,by rw[v.h];exact t,by rw[v.h];omega,e.aa s⟩);exact bc);. (obtain rfl:b=j a:=m);have b:=y (by rw[<-q.h,kY];rfl:f=di a);go_wp2;go_ret;exact⟨_,u,e,b▸i⟩
def Sv{a:b7}(b:bR a=N)(c:a.af=14):fZ a N=1:=by simp[fZ,b,c]
def Sw{a:b7}(b:bR a=N)(c:¬a.af=14):fZ a N= -1:=by simp[fZ,b,c]
def Sx{a:b7}(b:¬bR a=N):fZ a N=0:=by simp[fZ,b]
def Sy(a:bC)(c:e<j a)(b:Int):dJ (a.take<|e+1) b=dJ (a.take e) b+fZ a[e] b:=by
 rw[fX a e c,Ij,sf,vn];omega
def Sz{a0:aw}(p:ay)(a:bC)(c:Int)(k:a5)(l:a6 a0 k (e6 a) p)(q:∀s∈a,0<j s.ak):aR aK 125 #[p,ag c] k λt v=>t=bg (ag<|dJ a c)/\k=v:=by
 obtain⟨w,x⟩:=aq l q;obtain⟨L,M,rfl,_,_⟩:=oZ l;clear l q;go_enter func125,ntmps125;go_wp2;go_loop [5,6](λz A=>∃(d:Nat)(e:Int),d<=j a/\A=ag d/\z=ag e/\e=dJ (a.take d) c/\ -d<=e/\e<=d)(λ_ B=>j a -(intOf B).toNat);.exact⟨0,0,el _,u,u,u,m,m⟩
 obtain⟨b,f,N,rfl,rfl,j6:aj _,O,P⟩:=hrel;by_cases n:b<j a;(.obtain⟨Q,R,S,T,U,V,rfl,W,X,C,Y,Z,a1,a2,g,i⟩:=jf w n;have o:=x _<|dV n;obtain⟨a3,a4,rfl,_,_,D⟩:=bY g o;(have h:a[b].ak[0]=bR a[b]:=by simp[bR,o]);rw[h,jW]at D;have K9:=y<|Sy a n c;clear g i h;obtain⟨g,h,i⟩:=bb (λ(E:bR a[b]=c)(F:a[b].af=14)=>Sv E F) (λ(G:bR a[b]=c)(H:¬a[b].af=14)=>Sw G H) (λ(I:¬bR a[b]=c)=>Sx I);generalize fZ a[b] c=a7 at*;generalize bR a[b]=J at*;generalize a[b]=K at*;by_cases r:J=c;(.subst r;by_cases o:K.af=14;(.have D:=y<|g u o;rw[o]at C;clear g h i;go_wp2;go_round;(.exact⟨b+1,f+1,m,bf,bf,by rw[K9.h,D.h,j6.h],m,m⟩);exact bc);.have Ka:=y<|h u o;clear g h i;go_wp2;go_round;(.exact⟨b+1,f - 1,m,bf,bf,SA,m,m⟩);exact bc);.have Ka:=y<|i r;clear g h i;go_wp2;go_round;(.exact⟨b+1,f,m,bf,u,SA,m,m⟩);exact bc);. (obtain rfl:b=j a:=m);have b:=y (by rw[j6.h,kY]:f=dJ a c);go_wp2;go_ret;exact⟨eD b,u⟩
def SB(a:b7)(d:az)(e:Nat)(f:az)(g:Nat)(c:a5):aR aK 88 #[aO #[ag a.af,ag a.an,ag a.b1,q d (j a.ak) e,q f (j a.a7) g]] c (fi c<|.bool<|ez a.af):=by
 generalize a.af=b;rcases(m:b=14\/b=15\/(¬b=14/\¬b=15))with rfl|rfl|⟨h,i⟩;.go_enter func88,ntmps88;go_wp2;go_ret;exact⟨u,ap.alloc _⟩
 .go_enter func88,ntmps88;go_wp2;go_ret;exact⟨u,ap.alloc _⟩
 . (have a:(b==14)=false:=a3);(have a:(b==15)=false:=a3);(have a:ez b=false:=by grind[ez]);rw[a];clear a;go_enter func88,ntmps88;go_wp2;go_ret;exact⟨u,ap.alloc _⟩
def L8{a0:aw}(b:ay)(l:ab)(c:Int)(A:a5)(d:a6 a0 A (aI l) b)(t:j l<=1073741824)(i:∀e,e∈a0->e<x A.heap):aR aK 197 #[b,ag c] A (nf a0 A<|j l):=by
 obtain⟨cD,n⟩:=aq i d;obtain⟨v,z,rfl,_,_⟩:=bF d;go_enter func197,ntmps197;go_wp2;go_loopw [5,6](λo p wr=>∃(a:Nat)(f:ab),a<=j l/\p=ag a/\j f<=a/\aU a0 (x A.heap) wr 3 1 o (b6 f)/\H [] A wr)(λ_ q _=>j l -(intOf q).toNat);. exact EB
 obtain⟨k,gP,B,rfl,C,bZ:aj _,ca:aj _⟩:=hrel;obtain⟨ea,cE,h⟩:=bZ.cv;rw[cP]at h;subst h;by_cases r:k<j l;(.obtain⟨D,E,rfl,_,_,s⟩:=bY n r;generalize l[k]=aS at*;have a:=ca.a2 s;by_cases h3:aS=c;(. exact TH);. exact TI);. exact EC
def L9{a0:aw}(b:ay)(l:ab)(c:Int)(A:a5)(d:a6 a0 A (aI l) b)(t:j l<=1073741824)(i:∀e,e∈a0->e<x A.heap):aR aK 254 #[b,ag c] A (nf a0 A<|j l):=by
 obtain⟨cD,n⟩:=aq i d;obtain⟨v,z,rfl,_,_⟩:=bF d;go_enter func254,ntmps254;go_wp2;go_loopw [5,6](λo p wr=>∃(a:Nat)(f:ab),a<=j l/\p=ag a/\j f<=a/\aU a0 (x A.heap) wr 3 1 o (b6 f)/\H [] A wr)(λ_ q _=>j l -(intOf q).toNat);. exact EB
 obtain⟨k,gP,B,rfl,C,bZ:aj _,ca:aj _⟩:=hrel;obtain⟨ea,cE,h⟩:=bZ.cv;rw[cP]at h;subst h;by_cases r:k<j l;(.obtain⟨D,E,rfl,_,_,s⟩:=bY n r;generalize l[k]=aS at*;have a:=ca.a2 s;by_cases a:aS<c;(. exact TI);.go_wp2;exact La);. exact EC
def TJ{a0:aw}(c d:ay)(l a:ab)(A:a5)(e:a6 a0 A (aI l) c)(f:a6 a0 A (aI a) d)(I:j l<=1073741824)(o:∀g,g∈a0->g<x A.heap):aR aK 236 #[c,d] A (nf a0 A<|j l):=by
 obtain⟨cD,p,q⟩:=bb o e f;obtain⟨J,K,rfl,_,_⟩:=bF e;obtain⟨r,s,rfl,_,_⟩:=bF f;go_enter func236,ntmps236;go_wp2;go_loopw [5,6](λt v wr=>∃(b:Nat)(h:ab),b<=j l/\v=ag b/\j h<=b/\aU a0 (x A.heap) wr 3 1 t (b6 h)/\H [] A wr)(λ_ z _=>j l -(intOf z).toNat);. exact EB
 obtain⟨k,gP,L,rfl,M,bZ:aj _,ca:aj _⟩:=hrel;obtain⟨B,C,i⟩:=bZ.cv;rw[cP]at i;subst i;by_cases D:k<j l;(.obtain⟨N,O,rfl,_,_,E⟩:=bY p D;generalize l[k]=aS at*;have P:=ca.a2 E;have n:=y<|jB (a0:=a0) (a1 r a s) a aS wr<|q.I ca;generalize dN a aS=F at*;rcases Lb F with rfl|rfl;(.go_wp2_with(first|(go_at_call 109;refine ad (n) ?_;rintro a a⟨rfl,rfl⟩)|(at_builtin;refine g9 u _ _ _ u a0 (x A.heap) 3 (ag 0) 1 8 f7 eZ u bi (a1 B gP C) (b6 gP) bZ (j gP) (cP _) _ [.int aS] u ⟨u,bA⟩ (λa b=>dF (cD a b) (ca.aa ap).size) (ca.aa ap).size m m u u u ?_;intro a a a a;have ED:=y a));exact TK);.go_wp2_with(go_at_call 109;refine ad (n) ?_;rintro a a⟨rfl,rfl⟩);exact La);. exact EC
def Lc{a0:aw}(c:ay)(l:ab)(a:Nat)(A:a5)(d:a6 a0 A (aI l) c)(z:j l<=1073741824)(B:a<=1073741824)(h:∀e,e∈a0->e<x A.heap):aR aK 189 #[c,ag a] A (nf a0 A<|j l):=by
 obtain⟨cD,i⟩:=aq h d;obtain⟨C,D,rfl,_,_⟩:=bF d;go_enter func189,ntmps189;go_wp2;go_loopw [5,6](λn o wr=>∃(b:Nat)(f:ab),b<=j l/\o=ag b/\j f<=b/\aU a0 (x A.heap) wr 3 1 n (b6 f)/\H [] A wr)(λ_ p _=>j l -(intOf p).toNat);. exact EB
 obtain⟨k,gP,E,rfl,F,bZ:aj _,ca:aj _⟩:=hrel;obtain⟨q,r,g⟩:=bZ.cv;rw[cP]at g;subst g;by_cases s:k<j l;(.obtain⟨I,J,rfl,_,_,t⟩:=bY i s;generalize l[k]=v at*;have b:=ca.a2 t;by_cases h3:v=0;(. exact TH);.go_wp2_with(at_builtin;refine g9 u _ _ _ u a0 (x A.heap) 3 (ag 0) 1 8 f7 eZ u bi (a1 q gP r) (b6 gP) bZ (j gP) (cP _) _ [.int ((a:Int)+(k:Int))] u ⟨u,bA⟩ (λb c=>dF (cD b c) (ca.aa ap).size) (ca.aa ap).size m m u u u ?_;intro b b b c;have b:=y c);go_roundw;(.exact⟨k+1,gP++[((a:Int)+(k:Int))],m,bf,aB,kt b.ae,b.bn bZ<|ca.aa ap⟩);exact bc);. exact EC
def EE{a0:aw}(d a:Nat)(b:a5)(v:d<=1073741824)(w:a<=1073741824)(k:∀h,h∈a0->h<x b.heap):aR aK 132 #[ag d,ag a] b (j3 a0 b 3 1<|b6<|m4 d a):=by
 have z:=y k;go_enter func132,ntmps132;go_wp2;go_loopw [5,6](λl n wr=>∃f:Nat,f<=a/\n=ag f/\aU a0 (x b.heap) wr 3 1 l (b6<|m4 d f)/\H [] b wr)(λ_ o _=>a -(intOf o).toNat);.exact⟨0,Nat.zero_le _,u,by grind[m4,b6,aU.made],ap.alloc _⟩
 obtain⟨c,A,rfl,e:aj _,g:aj _⟩:=hrel;have p:=g.size;obtain⟨r,s,i⟩:=e.cv;rw[cP,qt]at i;subst i;by_cases B:c<a;(.go_wp2_with(at_builtin;refine g9 u _ _ _ u a0 (x b.heap) 3 (ag 0) 1 8 f7 eZ u bi (q r c s) _ e c (by rw[cP,qt]) _ [.int ((d:Int)+(c:Int))] u ⟨u,bA⟩ a3 p m m u u u ?_;intro t t t t;have j:=y t);go_roundw;(.exact⟨c+1,m,bf,by rw[TG];exact kt j.ae,j.bn e g⟩);exact bc);. (obtain rfl:c=a:=m);go_wp2;go_ret;exact⟨_,u,g,e⟩
def TL{a0:aw}(i k:ay)(c a:ab)(b:a5)(l:a6 a0 b (aI c) i)(n:a6 a0 b (aI a) k)(M:j c<=536870912)(N:j a<=536870912)(r:∀o,o∈a0->o<x b.heap):aR aK 192 #[i,k] b (nf a0 b<|j c+j a):=by
 obtain⟨s,t,v⟩:=bb l n r;obtain⟨O,P,rfl,_,_⟩:=bF l;obtain⟨Q,R,rfl,_,_⟩:=bF n;go_enter func192,ntmps192;go_wp2_with(go_at_call 86;refine ad (je (a0:=a0) _ _ _ s m v) ?_;rintro w S⟨T,rfl,z:aj _,A:aj _⟩);go_loopw [5,6](λB C wr=>∃(g:Nat)(p:ab),g<=j a/\C=ag g/\j p<=j c+g/\aU a0 (x b.heap) wr 3 1 B (b6 p)/\H [] b wr)(λ_ D _=>j a -(intOf D).toNat);.exact⟨0,c,el _,u,m,A,z⟩
 obtain⟨d,e,U,rfl,E,h:aj _,f:aj _⟩:=hrel;have F:=f.size;obtain⟨V,W,rfl,_⟩:=bF h.bt;by_cases I:d<j a;(.obtain⟨K,L,rfl,_,_,J⟩:=bY t I;generalize a[d]=q at*;have K:=f.a2 J;have J:=ua e q;go_wp2_with(go_at_call 167;refine ad (y3 (a0:=a0) _ e _ _ h.bt m a3) ?_;rintro w L⟨L,rfl,J:aj _,K⟩;have L:=y<|K.dH (oU:=b.heap.size) F);go_roundw;(.exact⟨d+1,gT e q,m,bf,m,L,f.aa J⟩);exact bc);. (obtain rfl:d=j a:=m);go_wp2;go_ret;exact⟨e,E,_,u,f,h⟩
end
structure dz(a0:aw)(aA A:a5)(p:Nat)(cX:bJ)(cf:de)(c1:cq)(co:List er):Prop where
 cQ:A.heap[p]?=G (au (cf++co.map er.v).toArray cX (0,0))
 ae:dy (p::a0) (x aA.heap) A co
 f4:cw (dw co++[p]) A c1 cf
 a9:H [] aA A
 fE:x aA.heap<=p
 kV:p∉a0
 lt:∀g,g∈a0->g<x A.heap
def XV{a:List er}{b:er}(c:J∈dw (a.set e b)):J∈aF b.v\/J∈dw a:=by
 obtain⟨b,d,e⟩:=kX.1 c;rcases xW d with a|a;.exact bj<|kX.2 ⟨b,a,e⟩
 .grind
def Np{a:de}{b:List er}{o:er}:(a++b.map er.v).toArray.setIfInBounds (j a+e) o.v=(a++(b.set e o).map er.v).toArray:=a3
section
variable{a0:aw}{aA A wx bN:a5}{p:Nat}{cX:bJ}{cf:de}{c1:cq}{co:List er}{av:Nat}{E:bJ}{ch:Nat}{v g6:ay}{bD BL:List cq}
def dz.jd(a:dz a0 aA A p cX cf c1 co):p<x A.heap:=(fq.1 a.cQ).1
theorem dz.I(a:dz a0 aA A p cX cf c1 co)(b:H [] A wx):dz a0 aA wx p cX cf c1 co:=⟨(b.block p a.jd a8).trans a.cQ,a.ae.I b,a.f4.map λ_ _ c=>c.I b,a.a9.aa b,a.fE,a.kV,λc d=>dF (a.lt c d) b.size⟩
def dz.np(a:dz a0 aA A p cX cf c1 co){o:er}(b:co[av]?=G o):p∉aF o.v:=λc=>(a.ae av o b).e4 p c a8
def dz.oD(b:dz a0 aA A p cX cf c1 co){a:er}(c:co[av]?=G a)(aL:e∈a0):e∉aF a.v:=λd=>(b.ae av a c).e4 e d qm
def Nq{o:er}(a:co[av]?=G o)(b:e∈aF o.v):e∈dw co:=kX.2 ⟨o,sc a,b⟩
def dz.change(a:dz a0 aA A p cX cf c1 co)(b:H [] A wx){c k0:er}(f:co[av]?=G c)(d:H (aF c.v) wx bN)(k:∀h,h∈aF k0.v->h∈aF c.v\/x A.heap<=h)(o:aU (dw (co.eraseIdx av)++(p::a0)) (x aA.heap) bN k0.E k0.ch k0.v k0.bD)(g:a5)(e:H [p] bN g)(q:g.heap[p]?=G (au (cf++(co.set av k0).map er.v).toArray cX (0,0))):dz a0 aA g p cX cf c1 (co.set av k0)/\bQ a0 A g:=by
 have r:dy (p::a0) (x aA.heap) bN (co.set av k0):=a.ae.set f b d k o;obtain⟨B,C,D,E⟩:=fN a.jd b.size d.size e.size;have l:∀j,j∈aF c.v->j∈dw co:=λF s=>Nq f s;refine⟨⟨q,r.e3 e λI bv=>aM Nr,a.f4.map λt u v=>?_,(((a.a9.aa b).trans d λy z=>bj ((a.ae av c f).lt y z).1).trans e λJ n=>bj (by simp at n;subst n;exact a.fE)),a.fE,a.kV,λc g=>by have:=a.lt c g;omega⟩,λc g=>?_,m⟩;. (have o:a6 (dw (co.set av k0)++(dw co++[p])) A t u:=v.sub λn j=>by rcases cI.1 j with h|h;(.rcases XV h with j|j;(.exact(k n j).imp (λk=>hA _<|l n k) id);.exact aM<|hA _ j);.exact aM h);have h:=(o.I b).a9 d λj k=>aM<|gQ _<|hA _<|l j k;refine(h.a9 e λh bv=>aM Nr).sub λh j=>aM ?_;rcases cI.1 j with h|h;(.exact hA _ h);.exact gQ _<|gQ _ h
 .have h:=a.lt c g;exact(e.block c m (by simp;rintro rfl;exact a.kV g)).trans<|(d.block c m<|a.oD f g).trans<|b.block c h a8
def dz.push(a:dz a0 aA A p cX cf c1 co)(b:H [] A wx)(d:co[av]?=G ⟨E,ch,v,bD⟩)(c:n6 (dw (co.eraseIdx av)++(p::a0)) (x aA.heap) wx bN E ch v g6 BL){k:Nat}(e:k=j cf+av):dz a0 aA (bX bN ⟨p,k,F⟩ g6) p cX cf c1 (co.set av ⟨E,ch,g6,BL⟩)/\bQ a0 A (bX bN ⟨p,k,F⟩ g6):=by
 subst e;refine a.change b d c.a9 (λe f=>(c.dA e f).imp id λe=>fB b.size e) c.ae _ (ap.setCell (aM a8) _) ?_;rw[fl ((c.a9.block p (dF a.jd b.size)<|a.np d).trans<|(b.block p a.jd a8).trans a.cQ)];rw[Np (o:=⟨E,ch,g6,BL⟩)]
def dz.Ns(a:dz a0 aA A p cX cf c1 co)(b:H [] A wx)(c:co[av]?=G ⟨E,ch,v,bD⟩)(d:n6 (dw (co.eraseIdx av)++(p::a0)) (x aA.heap) wx bN E ch v g6 BL):bN.heap[p]?=G (au (cf++co.map er.v).toArray cX (0,0)):=(d.a9.block p (dF a.jd b.size)<|a.np c).trans<|(b.block p a.jd a8).trans a.cQ
theorem dz.made{wc:a5}(b:∀a∈co,a.v=q F 0 0/\a.bD=[])(c:cw [] wc c1 cf)(fL:∀g,g∈a0->g<x wc.heap):dz a0 wc (aY wc<|au (cf++co.map er.v).toArray cX) (x wc.heap) cX cf c1 co:=by
 have d:dw co=[]:=by induction co with|nil=>rfl|cons e i f=>have h:=(b e a8).1;simp only[dw,h,f a3];rfl
 refine⟨dD wc _,λa a a=>?_,c.map λa a a=>?_,ap.alloc _,cF _,λb=>?_,λg aL=>JZ⟩;.grind[List.mem_of_getElem?,aU.nil]
 .rw[d];exact(a.sub a3).alloc _
 .grind
def dz.put{b n du:Nat}{z:ab}(d:dz a0 aA A p cX cf c1 co)(e:co[av]?=G ⟨E,1,q (G ⟨b,0,F⟩) n du,b6 z⟩)(a:Nat)(c:Int):dz a0 aA (bX A ⟨b,a,F⟩<|C B c) p cX cf c1 (co.set av ⟨E,1,q (G ⟨b,0,F⟩) n du,b6<|z.set a c⟩)/\bQ a0 A (bX A ⟨b,a,F⟩<|C B c):=by
 have g:b∈aF (q (aX b 0) n du):=fm;have f:H (aF<|q (aX b 0) n du) A (bX A (bs b a)<|C B c):=ap.setCell (aM g) _;refine d.change ap (k0:=⟨E,1,.slice (aX b 0) n du,b6<|z.set a c⟩) e f a3 ((d.ae av _ e).A7 a c) _ ap ?_;rw[f.block p d.jd (d.np e),d.cQ];have d:av<j co:=(tW.1 e).1;have d:co[av]=⟨E,1,q (aX b 0) n du,b6 z⟩:=a3;have:(co.set av ⟨E,1,q (aX b 0) n du,b6<|z.set a c⟩).map er.v=co.map er.v:=by rw[qF];refine xh a8 λa a a=>?_;rw[Mo];split;(.grind);.rfl
 rw[this]
def dz.field{d:a5}{c:ab}(a:dz a0 aA A p cX cf c1 co)(h:co[av]?=G ⟨E,1,v,bD⟩)(b:H [] A d)(f:H [] d bN)(g:aU [] (x d.heap) bN E 1 g6 (b6 c))(k:e=j cf+av):dz a0 aA (bX bN ⟨p,e,F⟩ g6) p cX cf c1 (co.set av ⟨E,1,g6,b6 c⟩)/\bQ a0 A (bX bN ⟨p,e,F⟩ g6):=by
 subst k;refine a.change (b.aa f) (k0:=⟨E,1,g6,b6 c⟩) h (ap.cn) (λl m=>bj<|fB b.size (g.lt l m).1) ?_ _ (ap.setCell (aM a8) _) ?_;.refine(g.new1 λn q=>?_).dH<|fB a.a9.size b.size;refine dF (a.ae.pn av (λr s=>?_) n q) b.size;rcases ek.1 s with rfl|t;(.exact a.jd);.exact a.lt r t
 .rw[fl ((f.block p (dF a.jd b.size) a8).trans<|(b.block p a.jd a8).trans a.cQ)];rw[Np (o:=⟨E,1,g6,b6 c⟩)]
def dz.more{c:aw}(a:dz a0 aA A p cX cf c1 co)(d:H [] A wx)(e:∀b,b∈c->b∈a0\/(x A.heap<=b/\b<x wx.heap)):dz c aA wx p cX cf c1 co:=by
 have b:=a.I d;have c:=a.jd;refine⟨b.cQ,(a.ae.sub λc f=>?_).I d,b.f4,b.a9,a.fE,λg=>?_,λc f=>?_⟩;.grind
 .rcases e p g with d|d;(.exact a.kV d);.omega
 .rcases e c f with a|a;(.exact b.lt c a);.exact a.2
end
section
variable{c2:Array Oper}{jK:List Oper}{o:Oper}{a:Act}{dc:Exit->Act->a5->Prop}{a0:aw}{aA A wx:a5}{p:Nat}{cX:bJ}{cf:de}{c1:cq}{co:List er}{av:Nat}{v:ay}{z:ab}
def Gi(t:o.guard=F)(l n:Operand)(y:o.op= .call {callee:= .builtin .append,args:= #[l,n],argTypes:= #[34,34]})(d:Int)(b:dz a0 aA A p cX cf c1 co)(c:H [] A wx)(r:co[av]?=G ⟨3,1,v,b6 z⟩)(S:j z<=1073741824){k:Nat}(D:k=j cf+av)(E:a.eval l=v)(J:a.eval n=q (G ⟨e,0,F⟩) 1 1)(K:x wx.heap=e)(M:∀f g h,h.heap[p]?=G (au (cf++co.map er.v).toArray cX (0,0))->dz a0 aA (bX h ⟨p,k,F⟩<|q f (j z+1) g) p cX cf c1 (co.set av ⟨3,1,q f (j z+1) g,b6<|z++[d]⟩)->bQ a0 A (bX h ⟨p,k,F⟩<|q f (j z+1) g)->wpList aK c2 dc jK (a.put o.dst<|q f (j z+1) g) h):wpList aK c2 dc (o::jK) a (aY wx<|au #[C B d] 3):=by
 have N:∀s,s∈p::a0->s<x A.heap:=λO P=>by rcases ek.1 P with rfl|R;(.exact b.jd);.exact b.lt O R
 have e:=c.size;refine g9 t l n _ y (dw (co.eraseIdx av)++(p::a0)) (x aA.heap) 3 (C B 0) 1 8 f7 eZ u bi v (b6 z) ((b.ae av _ r).I c) (j z) vI #[C B d] [.int d] u ⟨u,bA⟩ (λd f=>dF (b.ae.pn av N d f) e) (fB b.a9.size e) m m E J K ?_;intro e f g d;rw[<-ql]at d;have:=b.push c r d D;exact M e f g ((d.a9.block p (dF b.jd c.size)<|b.np r).trans<|(c.block p b.jd a8).trans b.cQ) this.1 this.2
end
def uR(a:dK):cq:=[aI a.aC,aI a.aG,.int a.bu]
def wV(a:List dK):D:= .arr 3<|a.map uR
section
variable{a0:aw}{A:a5}{a:az}{n du:Nat}{v:ay}
def uS{b:List dK}(b2:a6 a0 A (wV b) v):∃d c,v=q d (j b) c/\j b<=c/\c<=9223372036854775807:=tm
def yJ{b:List dK}(r:a6 a0 A (wV b) (q a n du))(L:e<j b):∃c d g h k l,a=G ⟨c,d,F⟩/\c∉a0/\c<x A.heap/\ax A ⟨c,d+e*3,F⟩=G (q g b[e].aC.length h)/\ax A ⟨c,d+e*3+1,F⟩=G (q k b[e].aG.length l)/\ax A ⟨c,d+e*3+2,F⟩=G (C B b[e].bu)/\a6 a0 A (aI b[e].aC) (q g b[e].aC.length h)/\a6 a0 A (aI b[e].aG) (q k b[e].aG.length l):=by
 obtain⟨s,t,u,v,y,_,f⟩:=a6.dA r (av:=e) a3;rw[kc,uR]at f;simp only[fp]at f;obtain⟨⟨M,z,m⟩,⟨N,D,o⟩,⟨O,E,p⟩,_⟩:=f;simp only[a6]at p;subst p;obtain⟨H,I,rfl,_⟩:=bF m;obtain⟨J,K,rfl,_⟩:=bF o;exact⟨s,t,H,I,J,K,u,v,y,z,D,E,m,o⟩
end
structure iC(a0:aw)(A:a5)(n:aH)(bl:az)(bm:Nat)(bP:az)(bE:Nat):Prop where
 d:a6 a0 A (dd n.ai) (q bl (j n.ai) bm)
 f:a6 a0 A (wV n.ah) (q bP (j n.ah) bE)
theorem iC.I{A:a5}(a:iC w A M R e Z J)(b:H [] A i):iC w i M R e Z J:=⟨a.d.I b,a.f.I b⟩
def t8(a:ab):cq:=[aI a]
def o3(a:List ab):D:= .arr 1<|a.map t8
section
variable{a0:aw}{A:a5}{a:az}{n du:Nat}{v:ay}
def XW{b:List ab}(b2:a6 a0 A (o3 b) v):∃d c,v=q d (j b) c/\j b<=c/\c<=9223372036854775807:=tm
def yK{c:List ab}(k:a6 a0 A (o3 c) (q a n du))(d:e<j c):∃d f g h,a=G ⟨d,f,F⟩/\d<x A.heap/\ax A ⟨d,f+e,F⟩=G (q g c[e].length h)/\a6 a0 A (aI c[e]) (q g c[e].length h):=by
 obtain⟨b,iH,mj,_,f0,_,cV⟩:=a6.dA k (av:=e) a3;simp only[kc,t8,fp,zc]at cV;exact Pf
end
def XX:(prog.info? 134).map (λa=>(a.zero,a.size,a.bytes))=G (G (aO #[q F 0 0,q F 0 0,C B 0]),3,56):=cB
def BM:(prog.info? 34).map (λa=>(a.zero,a.size,a.bytes))=G (G (q F 0 0),1,24):=cB
end Go.Proofs.YtfekcilkpafpjaaGreat
