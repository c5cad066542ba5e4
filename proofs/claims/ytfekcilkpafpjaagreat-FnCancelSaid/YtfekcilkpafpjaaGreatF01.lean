/- A part. -/
import Derived.Test.YtfekcilkpafpjaaGreatFM
import Derived.Deep.RegionHeld3
open Array renaming size->x
open Go renaming Calls->aR
open Go.Calls renaming mono->ad
open Go.Ending renaming returned->bg
open Go.IntKind renaming i64->B
open Go.Obj renaming cells->au
open Go.Value renaming int->C,slice->q,agg->aO
open Go.World renaming cell?->ax,drew->eg,drewN->gg,alloc->aY,setCell->bX
open Int renaming toNat->bw
open List renaming length->j,range->aQ,getD->aP
open Option renaming none->F,some->G
open Or renaming inl->aM,inr->bj
namespace Go.Proofs.YtfekcilkpafpjaaGreat
open Go.RowKit
open Tryz renaming prog->aK
open Tryz
set_option maxRecDepth 100000
set_option maxHeartbeats 25600000
set_option linter.all false
variable{N Y:Int}{J Q V e:Nat}{P i:a5}{L X:ab}{w:aw}{K:ay}{R:az}{T:bJ}
def aj(a:Prop):Prop:=a
def aj.h{a:Prop}(b:aj a):a:=b
def y{a:Prop}(b:a):aj a:=b
def aq{a b:Prop}(c:a)(d:b):aj a/\aj b:=⟨c,d⟩
def bb{a b c:Prop}(d:a)(e:b)(f:c):aj a/\aj b/\aj c:=⟨d,e,f⟩
def ck{a b c d:Prop}(e:a)(f:b)(g:c)(h:d):aj a/\aj b/\aj c/\aj d:=⟨e,f,g,h⟩
def eY{a b c d e:Prop}(f:a)(g:b)(h:c)(i:d)(j:e):aj a/\aj b/\aj c/\aj d/\aj e:=⟨f,g,h,i,j⟩
def ke{a b c d e f:Prop}(g:a)(h:b)(i:c)(j:d)(k:e)(l:f):aj a/\aj b/\aj c/\aj d/\aj e/\aj f:=⟨g,h,i,j,k,l⟩
def kH{a b c d e f g:Prop}(h:a)(i:b)(j:c)(k:d)(l:e)(m:f)(n:g):aj a/\aj b/\aj c/\aj d/\aj e/\aj f/\aj g:=⟨h,i,j,k,l,m,n⟩
def v5{a b c d e f g h:Prop}(i:a)(j:b)(k:c)(l:d)(m:e)(n:f)(o:g)(p:h):aj a/\aj b/\aj c/\aj d/\aj e/\aj f/\aj g/\aj h:=⟨i,j,k,l,m,n,o,p⟩
def HB{a b c d e f g h i:Prop}(j:a)(k:b)(l:c)(m:d)(n:e)(o:f)(p:g)(q:h)(r:i):aj a/\aj b/\aj c/\aj d/\aj e/\aj f/\aj g/\aj h/\aj i:=⟨j,k,l,m,n,o,p,q,r⟩
def oW{a b c:Prop}(d:a)(e:b)(f:c):a/\b/\c:=⟨d,e,f⟩
def fN{a b c d:Prop}(e:a)(f:b)(g:c)(h:d):a/\b/\c/\d:=⟨e,f,g,h⟩
def i4{a b c d e:Prop}(f:a)(g:b)(h:c)(i:d)(j:e):a/\b/\c/\d/\e:=⟨f,g,h,i,j⟩
def h1{a b c d e f:Prop}(g:a)(h:b)(i:c)(j:d)(k:e)(l:f):a/\b/\c/\d/\e/\f:=⟨g,h,i,j,k,l⟩
def nu{a b c d e f g:Prop}(h:a)(i:b)(j:c)(k:d)(l:e)(m:f)(n:g):a/\b/\c/\d/\e/\f/\g:=⟨h,i,j,k,l,m,n⟩
def jQ{a b c d e f g h:Prop}(i:a)(j:b)(k:c)(l:d)(m:e)(n:f)(o:g)(p:h):a/\b/\c/\d/\e/\f/\g/\h:=⟨i,j,k,l,m,n,o,p⟩
def o8{a b c d e f g h i:Prop}(j:a)(k:b)(l:c)(m:d)(n:e)(o:f)(p:g)(q:h)(r:i):a/\b/\c/\d/\e/\f/\g/\h/\i:=⟨j,k,l,m,n,o,p,q,r⟩
def HC{a b c d e f g h i j:Prop}(k:a)(l:b)(m:c)(n:d)(o:e)(p:f)(q:g)(r:h)(s:i)(t:j):a/\b/\c/\d/\e/\f/\g/\h/\i/\j:=⟨k,l,m,n,o,p,q,r,s,t⟩
def P9{a b c d e f g h i j k:Prop}(l:a)(m:b)(n:c)(o:d)(p:e)(q:f)(r:g)(s:h)(t:i)(u:j)(v:k):a/\b/\c/\d/\e/\f/\g/\h/\i/\j/\k:=⟨l,m,n,o,p,q,r,s,t,u,v⟩
def HD{a b c d e f g h i j k l:Prop}(m:a)(n:b)(o:c)(p:d)(q:e)(r:f)(s:g)(t:h)(u:i)(v:j)(w:k)(x:l):a/\b/\c/\d/\e/\f/\g/\h/\i/\j/\k/\l:=⟨m,n,o,p,q,r,s,t,u,v,w,x⟩
def bc{a:Prop}(b:a:=by simp[intOf];omega):a:=b
theorem ap:H w i i:=H.refl w i
def H.a2(b:H w i P){a:Addr}(c:ax i a=G K)(d:a.block∉w:=by simp):ax P a=G K:=b.aJ c d
def bd(a:H w i P:=by repeat(first|with_reducible exact H.refl _ _|with_reducible refine H.drew ?_|with_reducible refine H.alloc ?_ _|exact H.refl _ _|refine H.drew ?_|refine H.alloc ?_ _|fail)):H w i P:=a
def cZ(a:H w i P:=by repeat(first|exact H.refl _ _|refine H.drew ?_|refine H.alloc ?_ _|fail)):H w i P:=a
def eI(a:H w i P:=by((repeat(first|with_reducible exact ap|with_reducible refine H.drew ?_|with_reducible refine H.alloc ?_ _|exact ap|fail));first|done|fail)):H w i P:=a
def go(a:H w i P:=by((repeat(first|exact ap|refine H.drew ?_|refine H.alloc ?_ _|fail));first|done|fail)):H w i P:=a
def o9{a:Type}(b c:a):Prop:=b=c
def o9.r{b:Type}{a:b}:o9 a a:=rfl
theorem a4{l:Program}{a:Array Oper}{b:Exit ->Act ->a5 ->Prop}{c:Region.Mode}{d:a5 ->Prop}(f m:Nat){g:Oper}{j o:Array Bool}{k p:Act}(q:wpAnyH l c a b d e o p i)(v:a[f]?=G g:=by rfl)(x:g.dst=G m:=by rfl)(y:Region.noSelect a=true:=by kernel_rfl)(z:Region.free c a j f=true:=by kernel_rfl)(B:(Region.ready c a j).contains f=true:=by kernel_rfl)(C:Region.wanted g (yielded a k.tmps)=true:=by rfl)(D:∀n,d n ->o9 ((execOp k.eval g).run l n) (.ok (.value K) n):=by(intro A lc;(try dsimp only at lc);go_simp;with_reducible exact o9.r))(E:k.put (G m) K=p:=by(first|(simp only[Act.put,g7,eJ,et];done)|(simp only[Act.put,g7,eJ,et];rfl)|rfl))(F:j.setIfInBounds f true=o:=by(first|(simp only[g7,eJ,et];done)|(simp only[g7,eJ,et];rfl)|rfl))(r:∀s t u,b (.panic s) (t.put (G m) K) u ->b (.panic s) t u:=by exactλ_ _ _ b2=>b2)(H:d i:=by assumption):wpAnyH l c a b d (e+1) j k i:=by
 subst E F;rw[<- x]at q r;exact wpAnyH_take v y z B r (Or.inl ⟨C,D⟩) H q
def c5{m:Program}{a:Array Oper}{b:Exit ->Act ->a5 ->Prop}{c:Region.Mode}{g:a5 ->Prop}(d j:Nat){k:Oper}{f n:Array Bool}{l o:Act}(p:wpAnyH m c a b g e n o i)(v:a[d]?=G k:=by rfl)(w:k.dst=G j:=by rfl)(x:Region.noSelect a=true:=by kernel_rfl)(y:Region.free c a f d=true:=by kernel_rfl)(z:(Region.ready c a f).contains d=true:=by kernel_rfl)(A:Region.wanted k (yielded a l.tmps)=false:=by kernel_rfl)(B:l.put (G j) undef=o:=by(first|(simp only[Act.put,g7,eJ,et];done)|(simp only[Act.put,g7,eJ,et];rfl)|rfl))(C:f.setIfInBounds d true=n:=by(first|(simp only[g7,eJ,et];done)|(simp only[g7,eJ,et];rfl)|rfl))(q:∀r s t,b (.panic r) (s.put (G j) undef) t ->b (.panic r) s t:=by exactλ_ _ _ b2=>b2)(D:g i:=by assumption):wpAnyH m c a b g (e+1) f l i:=by
 subst B C;rw[<- w]at p q;exact wpAnyH_take v x y z q (Or.inr ⟨A,u⟩) D p
def ba{g:Program}{a:Array Oper}{h:Exit ->Act ->a5 ->Prop}{j:Region.Mode}{b:a5 ->Prop}(k:Nat){c:Oper}{l:Array Bool}{d:Act}(o:∀m:Act ->a5 ->Prop,Shut (∀n f,b f ->(b f ->wpAnyH g j a h b e (l.setIfInBounds k true) n f)->m n f)->if Region.wanted c (yielded a d.tmps)=true then Oper.wp g c d i m h else m (d.put c.dst undef) i)(f:Region.ready j a l=[k]:=by kernel_rfl)(m:a[k]?=G c:=by rfl):wpAnyH g j a h b (e+1) l d i:=im f a8<|eW m o io
section
variable{bG:Program}{c2:Array Oper}{dc:Exit ->Act ->a5 ->Prop}{iF:Region.Mode}{jA co:a5 ->Prop}{gh:Nat}
def SP(b c:a5 ->Prop)(d:Nat)(e:Array Bool)(a:a5):Prop:=b a/\(e.getD d true=false ->c a)
def SP.set{av:Nat}{a:Array Bool}(b:av≠gh):SP jA co gh (a.setIfInBounds av true) i↔SP jA co gh a i:=by
 unfold SP;rw[getD_set_ne true b]
def kI(f:Program)(b:Region.Mode)(a:Array Oper)(c:Exit ->Act ->a5 ->Prop)(g h:a5 ->Prop)(i:Nat):Nat ->Array Bool ->Act ->a5 ->Prop|0,d,e,k=>Region.ready b a d=[]/\c .normal e k|m+1,d,k,l=>(Region.ready b a d=[]->c .normal k l)/\∀e∈Region.ready b a d,wpOp f a c e (λn j=>SP g h i (d.setIfInBounds e true) j/\kI f b a c g h i m (d.setIfInBounds e true) n j) k l
theorem HE:∀(a:Nat)(b:Array Bool)(c:Act)(d:a5),kI bG iF c2 dc jA co gh a b c d ->wpAny bG iF c2 dc a b c d|0,_,_,_,a=>a|b+1,_,_,_,a=>⟨a.1,λc d=>wpOp_mono (λe f g=>HE b _ e f g.2)<|a.2 c d⟩
def Pa{b:Array Bool}(c:(match c2[gh]? with|G h=>h.after.any λf=>Region.binds iF f&&f.on==e|F=>false)=true)(g:b.getD e true=false):gh∉Region.ready iF c2 b:=λi=>by obtain⟨_,j,k,l⟩:=mem_ready.1 i;rw[k]at c;simp only[Array.any_eq_true,fH,kf]at c;obtain⟨m,n,o,p⟩:=c;have a:=l j.after[m] (Array.getElem_mem n) o;rw[p]at a;rcases la e b.size with d|d;(. simp[d]at g a;rw[g]at a;cases a);. simp[Array.getElem?_eq_none d]at a
def Pb{b:Oper}(j:c2[e]?=G b)(s:∀(O:Nat)(t:Oper)R S,c2[O]?=G t ->t.op≠.select R S)(T:∀u v w,dc (.panic u) (v.put b.dst K) w ->dc (.panic u) v w)(U:e≠gh)(V:(match c2[gh]? with|G W=>W.after.any λx=>Region.binds iF x&&x.on==e|F=>false)=true):∀(y:Nat)(d:Array Bool)(k:Act)(i:a5),(∀l m,c2[l]?=G m ->l≠e ->d.getD l true=false ->(∀z∈m.after,Region.binds iF z=true ->z.on≠e)->b.apart c2 m=true)->d.getD gh true=false ->e∈Region.ready iF c2 d ->YieldsIf bG c2 (λA=>jA A/\co A) b K k ->jA i/\co i ->kI bG iF c2 dc jA co gh y (d.setIfInBounds e true) (k.put b.dst K) i ->kI bG iF c2 dc jA co gh (y+1) d k i:=by
 intro X;induction X with|zero=>intro r D E _ H c h a f;refine⟨λn=>(by rw[n]at c;cases c),λo p=>?_⟩;by_cases g:o=e;(. subst g;exact h.wpOp j a ⟨⟨a.1,λ_=>a.2⟩,f⟩);. have:=ready_mono p g;rw[f.1]at this;cases this|succ am Y=>intro f an ao D Z g E n H;have a0:=(mem_ready.1 g).1;refine⟨λa1=>(by rw[a1]at g;cases g),λa o=>?_⟩;by_cases c:a=e;(. subst c;exact E.wpOp j n ⟨⟨n.1,λ_=>n.2⟩,H⟩);. (have a2:a≠gh:=by rintro rfl;exact Pa V a0 o);have a3:=H.2 a<|ready_mono o c;obtain⟨B,p,q,a4⟩:=mem_ready.1 o;(have a6:∀C∈p.after,Region.binds iF C=true ->C.on≠e:=λa7 a8 a9 aa=>by have h:=a4 a7 a8 a9;have I:=(mem_ready.1 g).1;rw[aa]at h;rcases la e f.size with r|r;(. simp[r]at I h;rw[I]at h;cases h);. simp[Array.getElem?_eq_none r]at h);have ab:=wpOp_putIf q (D a p q c B a6) (λad ae=>s e b ad ae j) (λaf ag=>s a p af ag q) T E a3;(have ah:∀h r,c2[h]?=G r ->h≠e ->(f.setIfInBounds a true).getD h true=false ->(∀I∈r.after,Region.binds iF I=true ->I.on≠e)->b.apart c2 r=true:=λJ ai aj ak M al=>by refine D J ai aj ak ?_ al;by_cases N:a=J;(. subst N;exact B);. rw[getD_set_ne true N]at M;exact M);refine wpOp_mono (λl d h=>?_) ab;(have i:SP jA co gh (f.setIfInBounds a true) d:=by have:=h.2.1;rw[Pc _ _ (Ne.symm c)]at this;exact(SP.set U).1 this);(have k:(f.setIfInBounds a true).getD gh true=false:=by rw[getD_set_ne true a2];exact Z);have m:jA d/\co d:=⟨i.1,i.2 k⟩;refine⟨i,Y (f.setIfInBounds a true) l d ah k (ready_mono g<|Ne.symm c) h.1 m ?_⟩;rw[Pc _ _ c];exact h.2.2
def pB{id:Nat}{c:Act}(a b:a5 ->Prop)(d:Nat)(e:bG.follows .mixedOrders=true)(f:a (eg i)/\b (eg i))(g:a (eg i)/\b (eg i)->kI bG .any c2 dc a b d c2.size (Array.replicate c2.size false) c (eg i)):(Code.region id c2 true).wp bG dc c i:=wp_region_any e<|HE _ _ _ _<|g f
def pD{a:Array Bool}{b:Act}(c:dc .normal b i)(d:Region.ready iF c2 a=[]:=by kernel_rfl):kI bG iF c2 dc jA co gh e a b i:=by cases e with|zero=>exact⟨d,c⟩|succ g=>exact⟨λ_=>c,λh f=>(by rw[d]at f;cases f)⟩
theorem pT(a g:Nat){d:Oper}{b j:Array Bool}{c k:Act}(l:kI bG iF c2 dc jA co gh e j k i)(m:c2[a]?=G d:=by rfl)(s:d.dst=G g:=by rfl)(t:Region.noSelect c2=true:=by kernel_rfl)(u:Region.free iF c2 b a=true:=by kernel_rfl)(hv:(Region.ready iF c2 b).contains a=true:=by kernel_rfl)(v:a≠gh:=by decide)(x:(match c2[gh]? with|G H=>H.after.any λo=>Region.binds iF o&&o.on==a|F=>false)=true:=by kernel_rfl)(y:b.getD gh true=false:=by kernel_rfl)(z:Region.wanted d (yielded c2 c.tmps)=true:=by rfl)(B:∀f,jA f/\co f ->o9 ((execOp c.eval d).run bG f) (.ok (.value K) f):=by(intro A lc;(try dsimp only at lc);go_simp;with_reducible exact o9.r))(C:c.put (G g) K=k:=by(first|(simp only[Act.put,g7,eJ,et];done)|(simp only[Act.put,g7,eJ,et];rfl)|rfl))(D:b.setIfInBounds a true=j:=by(first|(simp only[g7,eJ,et];done)|(simp only[g7,eJ,et];rfl)|rfl))(n:∀p q r,dc (.panic p) (q.put (G g) K) r ->dc (.panic p) q r:=by exactλ_ _ _ b2=>b2)(E:jA i/\co i:=by assumption):kI bG iF c2 dc jA co gh (e+1) b c i:=by
 subst C D;rw[<- s]at l n;exact Pb m (Region.noSelect_spec t) n v x e b c i (Region.free_spec m u) y Cx (Or.inl ⟨z,B⟩) E l
def gp(d:Nat){b:Oper}{f:Array Bool}{c:Act}(m:∀g:Act ->a5 ->Prop,Shut (∀h a,jA a/\co a ->(jA a/\co a ->kI bG iF c2 dc jA co gh e (f.setIfInBounds d true) h a)->g h a)->if Region.wanted b (yielded c2 c.tmps)=true then Oper.wp bG b c i g dc else g (c.put b.dst undef) i)(j:Region.ready iF c2 f=[d]:=by kernel_rfl)(n:c2[d]?=G b:=by rfl):kI bG iF c2 dc jA co gh (e+1) f c i:=⟨λk=>(by rw[j]at k;cases k),λo l=>by rw[j,kG]at l;subst l;exact wpOp_step n λa b=>m a λc d a e=>b c d ⟨⟨a.1,λ_=>a.2⟩,e a⟩⟩
def pS{a:Oper}{b:Array Bool}{c:Act}(l:∀d:Act ->a5 ->Prop,Shut (∀g f,jA f ->kI bG iF c2 dc jA co gh e (b.setIfInBounds gh true) g f ->d g f)->if Region.wanted a (yielded c2 c.tmps)=true then Oper.wp bG a c i d dc else d (c.put a.dst undef) i)(h:Region.ready iF c2 b=[gh]:=by kernel_rfl)(m:c2[gh]?=G a:=by rfl)(n:gh<b.size:=by decide):kI bG iF c2 dc jA co gh (e+1) b c i:=⟨λj=>(by rw[h]at j;cases j),λo k=>by rw[h,kG]at k;subst k;exact wpOp_step m λa b=>l a λa c d e=>b a c ⟨⟨d,λa=>by simp[n]at a⟩,e⟩⟩
def aW{a:a5 ->Prop}{c:Act ->a5 ->Prop}{d:Act ->a5 ->Prop}{e f:Act}(h:Shut (∀g b,a b ->(a b ->c g b)->d g b))(j:a i)(k:a i ->c f i)(l:e=f:=by(first|(simp only[Act.put,g7,eJ,et];done)|(simp only[Act.put,g7,eJ,et];rfl)|rfl)):d e i:=by
 subst l;exact h _ _ j k
def nv{b:a5 ->Prop}{c:Act ->a5 ->Prop}{d:Act ->a5 ->Prop}{e f:Act}(h:Shut (∀g a,b a ->c g a ->d g a))(j:b i)(k:c f i)(l:e=f:=by(first|(simp only[Act.put,g7,eJ,et];done)|(simp only[Act.put,g7,eJ,et];rfl)|rfl)):d e i:=by
 subst l;exact h _ _ j k
end
section
variable{bG:Program}{c2:Array Oper}{dc:Exit ->Act ->a5 ->Prop}{mL:a5 ->Prop}
def d7{id:Nat}{b:Act}(a:a5 ->Prop)(c:a (eg i))(d:a (eg i)->wpAnyH bG .any c2 dc a c2.size (Array.replicate c2.size false) b (eg i))(a:bG.follows .mixedOrders=true:=by kernel_rfl):(Code.region id c2 true).wp bG dc b i:=v6 a c d
def cK{a:Region.Mode}{b:Array Bool}{c:Act}(d:dc .normal c i)(f:Region.ready a c2 b=[]:=by kernel_rfl):wpAnyH bG a c2 dc mL e b c i:=wpAnyH_done f d e
end
def bS(b a c:Int):Bool:=decide (b<=a)&&decide (a<=c)
theorem mM{a:Int}(b:N<=Y)(b:Y<=a):bS N Y a=true:=by grind[bS]
theorem fr{a:Int}(b:bS N Y a=true):N<=Y/\Y<=a:=by grind[bS]
theorem gG(a b c:Int)(d:a5):aR aK 107 #[ag a,ag b,ag c] d λe f=>e=bg (.bool<|bS b a c)/\d=f:=by
 by_cases c:b<=a;.go_enter func107,ntmps107;go_wp2;go_ret;exact⟨by simp[c,bS],u⟩
 .go_enter func107,ntmps107;go_wp2;go_ret;exact⟨by simp[c,bS];omega,u⟩
def dN(a:ab)(b:Int):Bool:=a.any λa=>a==b
def Pd(b:ab)(c a:Int):dN (b++[c]) a=(dN b a||c==a):=by simp[dN]
def Pe(a:e<j L)(a:(L[e]==N)=true):dN L N=true:=by grind[dN,List.any_eq_true]
theorem HF:dN L N=true↔N∈L:=by simp[dN]
def jB{a0:aw}(h:ay)(a:ab)(b:Int)(c:a5)(d:a6 a0 c (aI a) h):aR aK 109 #[h,ag b] c λk l=>k=bg (.bool<|dN a b)/\c=l:=by
 have n:=y d;obtain⟨q,r,rfl,s,t⟩:=bF d;clear d;go_enter func109,ntmps109;go_wp2;go_loop [5](λo=>∃e:Nat,e<=j a/\o=ag e/\dN (a.take e) b=false)(λp=>j a -(intOf p).toNat);.grind[dN]
 obtain⟨f,v,rfl,mi:aj _⟩:=hrel;by_cases g:f<j a;(.obtain⟨w,x,rfl,_,z,A⟩:=bY n g;cases i:(a[f]==b);(.go_wp2;go_round;(.exact⟨f+1,m,bf,by rw[fX _ _ g,Pd,mi.h,i];rfl⟩);exact bc);.go_wp2;go_ret;exact⟨cS (Pe g i).symm,u⟩);. exact HG
def eZ:(prog.info? 3).map (λa=>(a.zero,a.size,a.bytes))=G (G (ag 0),1,8):=cB
theorem pZ(a b:ab):b6 a++b6 b=b6 (a++b):=tl
def iZ(a:ab):∀b∈b6 a,j b=1:=tl
theorem HH(a:aw)(b:a5):∀c:ab,cw a b (b6 c).flatten (c.map λc=>ag c)|[]=>trivial|d::c=>by have:=HH a b c;simp only[b6,h0,lG,j0,j1]at this⊢;exact⟨u,this⟩
theorem lH{a0:aw}{A:a5}{E:bJ}(a:ab)(c:∀b,b∈a0->b<x A.heap)(d:j a<=9223372036854775807):a6 a0 (aY A<|au (a.map λb=>Value.int B b).toArray E) (aI a) (q (aX (x A.heap) 0) (j a)<|j a):=by
 have:=a6.new (a0:=a0) (A:=A) (ch:=1) (bD:=b6 a) (cs:=(a.map λb=>Value.int .i64 b).toArray) (E:=E) (iZ a) (by grind[HH]) c oX;rwa [cP]at this
def je{a0:aw}(d:ay)(b:ab)(a:a5)(c:a6 a0 a (aI b) d)(o:j b<=1073741824)(e:∀f,f∈a0->f<x a.heap):aR aK 86 #[d] a λk h=>∃i,k=bg i/\H [] a h/\aU a0 (x a.heap) h 3 1 i (b6 b):=by
 obtain⟨l,cD⟩:=aq c e;obtain⟨m,n,rfl,p,r⟩:=bF c;clear c e;go_enter func86,ntmps86;go_wp2_with(at_builtin;refine kd u _ _ 34 u a0 (x a.heap) 3 (ag 0) 1 8 f7 eZ u bi (q (bU a 0) 0 0) [] u (aU.made a0 _ a _ _ (cF _) cD) (a1 m b n) (b6 b) u ((l.cons<|cF _).alloc _) (iZ b) oX oX a8 (λg aL=>j2) ?_;intro a a a b;obtain⟨c,d⟩:=aq a b;clear a b);go_ret;refine⟨_,u,(ap.alloc _).trans d.h.a9 λa a=>?_,by simpa using c.h⟩;simp[aF,Value.ownBlock]at a;omega
def q0{a0:aw}(f h:ay)(c b:ab)(a:a5)(d:a6 a0 a (aI c) f)(e:a6 a0 a (aI b) h)(o:j c<=1073741824)(v:j b<=1073741824)(i:∀k,k∈a0->k<x a.heap):aR aK 200 #[f,h] a λp l=>∃n,p=bg n/\H [] a l/\aU a0 (x a.heap) l 3 1 n (b6<|c++b):=by
 obtain⟨q,r,cD⟩:=bb d e i;obtain⟨w,y,rfl,z,A⟩:=bF d;obtain⟨s,t,rfl,B,C⟩:=bF e;clear d e i;go_enter func200,ntmps200;go_wp2_with fail;refine ad (je _ c a q o cD) ?_;rintro h h⟨f,rfl,d:aj _,e:aj _⟩;have h:=d.size;go_wp2_with(at_builtin;refine kd u _ _ 34 u a0 (x a.heap) 3 (ag 0) 1 8 f7 eZ u bi f (b6 c) u e (a1 s b t) (b6 b) u (r.aF d λa c=>(e.lt a c).1) (iZ b) oX oX m (λg aL=>jR) ?_;intro a a a b;obtain⟨c,f⟩:=aq a b;clear a b);go_ret;exact⟨_,u,d.trans f.a9 λa b=>bj (e.lt a b).1,by rw[<-pZ];exact c⟩
structure nw where
 cC:Int
 d3:Int
 cons:List ab
abbrev b3:=List nw
def i5(a:ab):cq:=[aI a]
def jS(a:List ab):D:= .arr 1<|a.map i5
def gy(a:nw):cq:=[.int a.cC,.int a.d3,jS a.cons]
def dd(a:b3):D:= .arr 3<|a.map gy
variable{O:b3}
theorem gq(b2:a6 w i (dd O) K):∃c b,K=q c (j O) b/\j O<=b/\b<=9223372036854775807:=tm
theorem iG{a:a5}(l:a6 w a (dd O) (q R e J)){av:Nat}(h2:av<j O):∃b c f g,R=G ⟨b,c,F⟩/\b<x a.heap/\ax a ⟨b,c+av*3,F⟩=G (C B O[av].cC)/\ax a ⟨b,c+av*3+1,F⟩=G (C B O[av].d3)/\ax a ⟨b,c+av*3+2,F⟩=G (q f O[av].cons.length g)/\a6 w a (jS O[av].cons) (q f O[av].cons.length g):=by
 obtain⟨m,n,o,_,p,_,h⟩:=a6.dA l (av:=av) tn;simp only[kc,gy,fp,a6]at h;obtain⟨⟨z,r,rfl⟩,⟨A,s,rfl⟩,⟨t,k,u⟩,_⟩:=h;have d:a6 w a (jS O[av].cons) t:=u;obtain⟨v,y,rfl,_⟩:=a6.cv d;rw[fC]at k d;exact⟨m,n,v,y,o,p,r,s,k,d⟩
def s6{c:a5}{a:List ab}(h:a6 w c (jS a) (q R e J))(h2:Q<j a):∃d e f g,R=G ⟨d,e,F⟩/\d<x c.heap/\ax c ⟨d,e+Q,F⟩=G (q f a[Q].length g)/\a6 w c (aI a[Q]) (q f a[Q].length g):=by
 obtain⟨b,iH,mj,_,f0,_,cV⟩:=a6.dA h (av:=Q) tn;simp only[kc,i5,fp,zc]at cV;exact Pf
def dg(a:b3)(b:Nat):Int:=((a.take b).map λa=>(j a.cons:Int)).sum
theorem Cy(a:b3):dg a 0=0:=by simp[dg]
def mN(a:e<j O):dg O (e+1)=dg O e+O[e].cons.length:=by
 unfold dg;rw[fX _ _ a,fO,List.sum_append];simp only[h0,mh,Cz,List.sum_nil];omega
def q1(a:b3)(b:Nat):0<=dg a b:=by
 unfold dg;generalize a.take b=c;induction c with|nil=>simp|cons d e f=>simp;omega
def nx(a:b3):∀(d b:Nat),d<=b->b<=j a->dg a d<=dg a b:=by
 intro c f i k;induction f with|zero=>(have:c=0:=m);subst this;exact Int.le_refl _|succ e g=>rcases la c (e+1)with h|h;(.have:=g m m;rw[mN m];omega);. (have:c=e+1:=m);subst this;exact Int.le_refl _
def ze(h:ay)(a:b3)(d:Int)(e:a5)(f:a6 w e (dd a) h)(i:0<=d)(l:d<=j a)(x:dg a (j a)<=1073741824):aR aK 216 #[h,C B d] e λn o=>n=bg (C B<|dg a<|bw d)/\e=o:=by
 obtain⟨c,rfl⟩:=dB i;rw[kJ];have z:c<=j a:=m;have p:=y f;obtain⟨A,D,rfl,E,F⟩:=gq f;clear f i l;go_enter func216,ntmps216;go_wp2;go_loop [5,6](λq r=>∃g:Nat,g<=c/\r=C B g/\q=C B (dg a g))(λ_ s=>c -(intOf s).toNat);.exact⟨0,Nat.zero_le _,u,by rw[Cy]⟩
 obtain⟨b,G,rfl,rfl⟩:=hrel;have H:=q1 a b;have I:=nx a b (j a) m<|Nat.le_refl _;by_cases J:b<c;(.obtain⟨k,t,v,K,rfl,L,_,_,M,_⟩:=iG p.h (show b<j a by omega);(have k:=mN<|show b<j a by omega);have t:=nx a (b+1) (j a) m<|Nat.le_refl _;(have v:dg a b+a[b].cons.length<=1073741824:=m);have v:=y k;clear k t;go_wp2;go_round;(.exact⟨b+1,m,bf,by rw[v.h]⟩);exact bc);. (have k:b=c:=m);subst k;go_wp2;go_ret;exact⟨u,u⟩
def CA(a:b3)(b:Nat):Int:=match a[b]? with|G a=>(j a.cons)|F=>0
theorem tp(a:e<j O):CA O e=O[e].cons.length:=by simp[CA,a]
def iI(a:b3)(c:Int)(b:Nat):Bool:=bS (dg a b) c<|dg a b+CA a b - 1
def eC(a:b3)(b:Int):Int:=match(aQ<|j a).find? (iI a b)with|G a=>a+1|F=> -1
def CB(ef:e<j O)(b:iI O N e=true)(c:∀a,a<e->iI O N a=false):eC O N=e+1:=by
 have:(aQ<|j O).find? (iI O N)=G e:=by rw[List.find?_eq_some_iff_getElem];exact⟨b,e,v7,a8,λa b=>by simp[c a b]⟩
 simp[eC,this]
def HI(b:∀a,a<j O->iI O N a=false):eC O N= -1:=by
 have:(aQ<|j O).find? (iI O N)=F:=by rw[xa];intro a h3;simp[b a qY]
 simp[eC,this]
def HJ(a:b3)(b:Int):eC a b= -1\/∃c,c<j a/\eC a b=c+1/\iI a b c=true:=by
 unfold eC;cases d:(aQ<|j a).find? (iI a b)with|none=>exact aM u|some e=>exact bj ⟨e,by simpa using CD d,u,CE d⟩
def CF(k:ay)(a:b3)(c:Int)(e:a5)(f:a6 w e (dd a) k)(l:dg a (j a)<=1073741824):aR aK 161 #[k,C B c] e λq r=>q=bg (C B<|eC a c)/\e=r:=by
 have g:=y f;obtain⟨z,A,rfl,D,E⟩:=gq f;clear f;go_enter func161,ntmps161;go_wp2;go_loop [5](λs=>∃h:Nat,h<=j a/\s=C B h/\∀n,n<h->iI a c n=false)(λt=>j a -(intOf t).toNat);.exact⟨0,Nat.zero_le _,u,λb b=>m⟩
 obtain⟨b,F,rfl,d⟩:=hrel;have i:=y d;clear d;by_cases d:b<j a;(.obtain⟨G,H,I,J,rfl,K,_,_,L,_⟩:=iG g.h d;have M:=q1 a b;have v:=mN d;have x:=nx a (b+1) (j a) m<|Nat.le_refl _;(have N:dg a b+a[b].cons.length<=1073741824:=m);(have o:iI a c b=bS (dg a b) c (dg a b+a[b].cons.length - 1):=by rw[iI,tp d]);have p:=y o;clear v x o;cases o:bS (dg a b) c (dg a b+a[b].cons.length - 1);(.go_wp2_with(first|(go_at_call 216;refine ad (ze _ a _ _ g.h m m l) ?_;rintro c e⟨rfl,rfl⟩;rw[kJ])|(go_at_call 107;refine ad (gG _ _ _ _) ?_;rintro c e⟨rfl,rfl⟩));go_round;(.exact⟨b+1,m,bf,λc e=>by rcases Nat.lt_or_ge c b with e|e;(.exact i.h c e);.rw[show c=b by omega,p.h,o]⟩);exact bc);.go_wp2_with(first|(go_at_call 216;refine ad (ze _ a _ _ g.h m m l) ?_;rintro b c⟨rfl,rfl⟩;rw[kJ])|(go_at_call 107;refine ad (gG _ _ _ _) ?_;rintro b c⟨rfl,rfl⟩));go_ret;exact⟨eD (by rw[CB d (by rw[p.h,o]) i.h]),u⟩);.go_wp2;go_ret;exact⟨eD (by rw[HI (λa b=>i.h a m)]),u⟩
def kg{a:Program}{b:FuncId}{c:Array ay}(d:aR a b c (gg i e) λf g=>f=bg K/\gg i e=g):aR a b c (gg i e) λa b=>a=bg K/\∃a,b=gg i a:=d.mono a3
def dQ(a:b3)(b:Nat):nw:=a.getD b ⟨0,0,[]⟩
theorem jC(a:e<j O):dQ O e=O[e]:=by simp[dQ,a]
def bh(a:b3)(b:Int):ab:=if eC a b<1 then []else(dQ a (eC a b - 1).toNat).cons.getD (b - dg a (eC a b - 1).toNat).toNat []
def xb(c:aw)(d:a5)(e:D)(f:Ending)(a:a5):Prop:=∃b,f=bg b/\H [] d a/\a6 c a e b
def lI{a0:aw}(n:ay)(a:b3)(c:Int)(e:a5)(h:a6 a0 e (dd a) n)(i:dg a (j a)<=1073741824):aR aK 162 #[n,ag c] e (xb a0 e<|aI<|bh a c):=by
 have f:=y h;obtain⟨B,t,rfl,C,D⟩:=gq h;clear h;rcases HJ a c with d|⟨b,k,d,v⟩;. (have g:bh a c=[]:=by simp[bh,d]);rw[g];have l:=y d;clear g d;go_enter func162,ntmps162;go_wp2_with(go_at_call 161;apply(CF _ a _ _ f i).mono;rintro g g⟨rfl,rfl⟩;rw[l.h]);go_ret;exact⟨_,u,ap.alloc _,a6.nil _ _ _ _ _ m⟩
 .obtain⟨w,x,E,F,rfl,G,_,_,H,o⟩:=iG f k;(have p:bS (dg a b) c (dg a b+a[b].cons.length - 1)=true:=by grind[iI,tp]);obtain⟨I,J⟩:=fr p;have K:=q1 a b;have z:=mN k;have A:=nx a (b+1) (j a) m<|cF _;obtain⟨g,l⟩:=dB (m:0<=c - dg a b);(have q:g<a[b].cons.length:=m);(have r:bh a c=a[b].cons[g]:=by unfold bh;rw[be m,d,show((b:Int)+1 - 1).toNat=b by omega,jC k,l,kJ];simp[q]);obtain⟨L,M,N,O,rfl,P,Q,s⟩:=s6 o q;rw[r];obtain⟨h,k,n⟩:=bb d l s;(have q:(b:Int)<j a:=m);(have q:dg a b<=1073741824:=m);(have q:c<=2147483648:=m);(have q:0<=c:=m);(have q:g<=2147483648:=m);clear r d l o s v p z A;go_enter func162,ntmps162;go_wp2_with(go_at_call 161;refine ad (CF _ a _ _ f i) ?_;rintro d d⟨rfl,rfl⟩;rw[h.h]);have h:IntKind.i64.wrap (b:Int)=b:=fD _ m;(have l:IntKind.i64.wrap ((b:Int)+1 - 1)=b:=a3);(have o:IntKind.i64.wrap (c - dg a b)=g:=by rw[k.h];exact fD _ m);(have c:∀d,aR aK 216 #[a1 (aX w x) a t,ag b] (gg e d) λg k=>g=bg (ag<|dg a b)/\gg e d=k:=λd=>by have:=ze _ a b (gg e d) (f.drewN d) m m i;rwa [kJ]at this);have a:=y c;clear c;go_quiet((go_at_call 216;exact kg<|a _));clear h l o;go_wp2;go_ret;exact⟨_,u,ap.drewN _,n.drewN _⟩
def bx(a:b3)(b:Int):ab:=if bS 1 b (j a)then(aQ (dQ a (b - 1).toNat).cons.length).map λ(c:Nat)=>dg a (b - 1).toNat+c else []
def j3(d:aw)(a:a5)(e:bJ)(f:Nat)(g:List cq)(h:Ending)(b:a5):Prop:=∃c,h=bg c/\H [] a b/\aU d (x a.heap) b e f c g
theorem j3.bt{a:List cq}{b:Ending}(c:j3 w i T e a b P):xb w i (.arr e a) b P:=by
 obtain⟨a,b,d,e⟩:=c;exact⟨a,b,d,e.bt⟩
def HK(a:Nat->Int)(b:Nat):(aQ<|b+1).map a=(aQ b).map a++[a b]:=by
 rw[tq,fO];rfl
def oY{a0:aw}(l:ay)(a:b3)(d:Int)(c:a5)(i:a6 a0 c (dd a) l)(y:dg a (j a)<=1073741824)(n:∀o,o∈a0->o<x c.heap):aR aK 199 #[l,ag d] c (j3 a0 c 3 1<|b6<|bx a d):=by
 obtain⟨p,cD⟩:=aq i n;obtain⟨I,J,rfl,K,L⟩:=gq i;clear i n;cases r:bS 1 d (j a);. (have b:bx a d=[]:=by simp[bx,r]);rw[b];clear b;go_enter func199,ntmps199;go_wp2_with(go_at_call 107;apply(gG _ _ _ _).mono;rintro b b⟨rfl,rfl⟩);go_ret;exact⟨_,u,ap.alloc _,aU.made a0 _ c _ _ (Nat.le_refl _) cD⟩
 .obtain⟨M,N⟩:=fr r;obtain⟨b,f⟩:=dB (m:0<=d - 1);(obtain rfl:d=b+1:=m);(have s:b<j a:=m);(have e:bx a ((b:Int)+1)=(aQ a[b].cons.length).map λ(z:Nat)=>dg a b+z:=by grind[bx,jC]);rw[e];have O:=q1 a b;have h:=mN s;have k:=nx a (b+1) (j a) m<|Nat.le_refl _;(have P:dg a b+a[b].cons.length<=1073741824:=m);clear e f h k;go_enter func199,ntmps199;go_wp2_with(go_at_call 107;apply(gG _ _ _ _).mono;rintro A t⟨rfl,rfl⟩);go_loopw [5,6](λB C wr=>∃k:Nat,k<=a[b].cons.length/\C=ag k/\H [] c wr/\aU a0 (x c.heap) wr 3 1 B (b6<|(aQ k).map λ(D:Nat)=>dg a b+D))(λ_ E _=>a[b].cons.length -(intOf E).toNat);(.exact⟨0,Nat.zero_le _,u,ap.alloc _,aU.made a0 _ c _ _ (Nat.le_refl _) cD⟩);obtain⟨e,Q,rfl,f:aj _,h:aj _⟩:=hrel;have R:=f.size;obtain⟨S,T,U,V,rfl,W,_,_,X,_⟩:=iG (p.I f) s;by_cases Y:e<a[b].cons.length;(.go_wp2_with(first|(go_at_call 216;apply(ze _ a _ _ (p.I f) m m y).mono;rintro A t⟨rfl,rfl⟩;(first|rw[kJ]|rw[show((b:Int)+1 - 1).toNat=b by omega]))|(at_builtin;refine kd u _ _ 34 u a0 (x c.heap) 3 (ag 0) 1 8 f7 eZ u bi u5 _ u (h.alloc _) (q (bU wr 0) 1 1) (b6 [dg a b+e]) u (a6.new (bD:=b6 [dg a b+e]) (iZ _) ⟨u,bA⟩ (qX h λg aL=>jR) tl) (iZ _) v8 v8 aB (λg aL=>j2) ?_;intro v t v w;obtain⟨F,G⟩:=aq v w;clear v w));go_roundw;(.exact⟨e+1,m,bf,(f.alloc _).trans G.a9 λv w=>bj (h.lt v w).1,by rw[HK,<-pZ];exact F⟩);exact bc);. (have v:e=a[b].cons.length:=m);subst v;go_wp2;go_ret;exact⟨_,u,f,h⟩
inductive bo where|mk(af an:Int)(a7:List bo)
def bo.af:bo->Int|.mk a _ _=>a
def bo.an:bo->Int|.mk _ a _=>a
def bo.a7:bo->List bo|.mk _ _ a=>a
mutual def gz:bo->cq|.mk a b c=>[.int a,.int b,.arr 3 (zf c)]def zf:List bo->List cq|[]=>[]|a::b=>gz a::zf b end
theorem HL:∀a:List bo,zf a=a.map gz|[]=>rfl|b::a=>by rw[zf,HL a];rfl
def c3(a:List bo):D:= .arr 3<|a.map gz
def oa(a:bo):gz a=[.int a.af,.int a.an,c3 a.a7]:=by cases a with|mk b c d=>rw[gz,HL];rfl
theorem zh(a:bo):j (gz a)=3:=by
 rw[oa];rfl
theorem bo.eta(a:bo):bo.mk a.af a.an a.a7=a:=by
 cases a;rfl
theorem s7{b:List bo}(b2:a6 w i (c3 b) K):∃d c,K=q d (j b) c/\j b<=c/\c<=9223372036854775807:=tm
def v9{b:a5}{a:List bo}(l:a6 w b (c3 a) (q R e J)){av:Nat}(z:av<j a):∃c d g h,R=aX c d/\c<x b.heap/\aZ b c (d+av*3) (ag a[av].af)/\aZ b c (d+av*3+1) (ag a[av].an)/\aZ b c (d+av*3+2) (q g a[av].a7.length h)/\a6 w b (c3 a[av].a7) (q g a[av].a7.length h):=by
 obtain⟨m,n,o,_,p,_,f⟩:=a6.dA l (av:=av) a3;rw[kc,oa]at f;simp only[fp,a6]at f;obtain⟨⟨A,r,rfl⟩,⟨B,s,rfl⟩,⟨C,t,u⟩,_⟩:=f;have k:=u;obtain⟨v,y,rfl,_⟩:=s7 k;exact⟨m,n,v,y,o,p,r,s,t,k⟩
def hB(d:aw)(e:a5)(a:bo)(f:ay):Prop:=∃b c,f=aO #[ag a.af,ag a.an,q b (j a.a7) c]/\a6 d e (c3 a.a7) (q b (j a.a7) c)
theorem hB.a9{a0:aw}{A:a5}{b:bo}{cY:aw}(c:hB a0 A b K)(d:H cY A i)(e:∀a,a∈cY->a∈a0\/x A.heap<=a):hB a0 i b K:=by
 obtain⟨a,b,f,g⟩:=c;exact⟨a,b,f,g.a9 d e⟩
def hB.I{A:a5}{a:bo}(b:hB w A a K)(c:H [] A i):hB w i a K:=b.a9 c a3
theorem hB.sub{a0 bz:aw}{b:bo}(c:hB a0 i b K)(d:∀a,a∈bz->a∈a0\/x i.heap<=a):hB bz i b K:=by
 obtain⟨a,b,e,f⟩:=c;exact⟨a,b,e,f.sub d⟩
def CG(c:aw)(d:a5)(e:bo)(f:Ending)(a:a5):Prop:=∃b,f=bg b/\H [] d a/\hB c a e b
def CH(c:aw)(a:Int)(b:a5):aR aK 181 #[ag a] b (CG c b<|.mk 0 a []):=by
 go_enter func181,ntmps181;go_wp2;exact cl (v:= .agg #[ag 0,ag a,.slice (l9 b 1 0) 0 0]) (by simp[results,Tryz.results181,go_sem]) u ⟨_,u,((ap.alloc _).alloc _),_,_,u,a6.nil _ _ _ _ _ m⟩
def CI(c:aw)(a:Int)(b:a5):aR aK 228 #[ag a] b (CG c b<|.mk 12 a []):=by
 go_enter func228,ntmps228;go_wp2;exact cl (v:= .agg #[ag 12,ag a,.slice (l9 b 1 0) 0 0]) (by simp[results,Tryz.results228,go_sem]) u ⟨_,u,((ap.alloc _).alloc _),_,_,u,a6.nil _ _ _ _ _ m⟩
def s8(a b:Int)(e:ay)(c:List bo)(d:a5)(f:a6 w d (c3 c) e):aR aK 226 #[ag a,ag b,e] d (CG w d<|.mk a b c):=by
 obtain⟨g,h,rfl,_,_⟩:=s7 f;go_enter func226,ntmps226;go_wp2;refine cl (v:= .agg #[ag a,ag b,a1 g c h]) Pg u ⟨_,u,ap.alloc _,_,_,u,(y f).alloc _⟩
mutual def i6:bo->Int->Int|.mk _ _ b,a=>if a<1 then -1 else kK b (a - 1)def kK:List bo->Int->Int|[],a=>a|a::c,b=>if i6 a b<0 then -1 else kK c (i6 a b)end
mutual theorem CJ:∀(b:bo)(a:Int),-1<=i6 b a/\(0<=a->i6 b a<=a)|.mk _ _ a,b=>by rw[i6];split;(.omega);.have:=HM a (b - 1) m;omega theorem HM:∀(b:List bo)(a:Int),0<=a-> -1<=kK b a/\kK b a<=a|[],a,b=>by rw[kK];omega|a::c,b,d=>by rw[kK];have d:=CJ a b;split;(.omega);.have:=HM c (i6 a b) m;omega end
def Ph{a:List bo}(c:e<j a)(b:Int):kK (a.drop e) b=if i6 a[e] b<0 then -1 else kK (a.drop<|e+1) (i6 a[e] b):=by rw[kh c,kK]
mutual def da:bo->Nat|.mk _ _ a=>1+gR a def gR:List bo->Nat|[]=>0|a::b=>da a+gR b end
theorem HN:∀{l:List bo}{k:Nat}(a:k<j l),da l[k]<=gR l|[],b,a=>by simp at a|a::b,0,_=>by simp only[kL,gR];omega|c::a,b+1,ef=>by have:=HN (l:=a) (k:=b) v7;simp only[jT,gR];omega
def Pi{a:bo}(c:e<j a.a7):da a.a7[e]<da a:=by cases a with|mk d f b=>have g:=HN (l:=b) (k:=e) c;rw[da];show da b[e]<_;omega
def HO(v:Nat):∀(E:aw)(i:bo),da i<v->∀(w:ay)(f:Int)(k:a5),hB E k i w->0<=f->f<=1000000->aR aK 230 #[w,ag f] k λF G=>F=bg (ag<|i6 i f)/\H [] k G:=by induction v with|zero=>grind|succ U J=>intro l a V W d n K X Y;have x:=y J;obtain⟨o,q,rfl,z⟩:=K;obtain⟨_,_,L,Z,a0⟩:=s7 z;injection L with M a2 N;subst M N;by_cases A:d<1;(. (have b:i6 a d= -1:=by cases a;rw[i6,bB A]);rw[b];go_enter func230,ntmps230;go_wp2;go_ret;exact⟨u,ap.alloc _⟩);. (have O:i6 a d=kK a.a7 (d - 1):=by cases a;rw[i6,be A];rfl);have a4:=y O;go_enter func230,ntmps230;go_wp2;go_loopw [1,5](λP Q wr=>∃(r:Nat)(g:Int),r<=j a.a7/\Q=ag r/\P=ag g/\0<=g/\g<=d/\kK (a.a7.drop r) g=i6 a d/\H [] (aY n<|au #[ag a.af,ag a.an,a1 o a.a7 q] 155) wr)(λ_ R _=>j a.a7 -(intOf R).toNat);(.exact⟨0,d - 1,el _,u,u,m,m,a3,ap⟩);obtain⟨b,c,a7,rfl,rfl,S,a9,s:aj _,e:aj _⟩:=hrel;have ab:bk wr n 2 (a1 o a.a7 q):=(e.cell (p:=cO n 2) a8 a8).trans fP;by_cases t:b<j a.a7;(.obtain⟨ad,ae,af,ah,rfl,ai,ak,al,am,B:aj _⟩:=v9 ((((y z).h.alloc _).I e:a6 l wr (c3 a.a7) (a1 o a.a7 q))) t;have C:=y<|Ph t c;obtain⟨an,T⟩:=CJ a.a7[b] c;have ao:=T S;have D:=y<|Pi t;cases aq:decide (i6 a.a7[b] c<0);(. (have d:0<=i6 a.a7[b] c:=a3);go_wp2_with(go_at_call 230;apply(x l a.a7[b] (by have:=D.h;omega) _ c _ ⟨_,_,u,B⟩ m m).mono;rintro f f⟨rfl,d:aj _⟩);go_roundw;(.exact⟨b+1,i6 a.a7[b] c,m,bf,u,m,m,by rw[<-s.h,C.h,be m],e.aa d⟩);exact bc);. (have d:i6 a.a7[b] c<0:=a3);go_wp2_with(go_at_call 230;apply(x l a.a7[b] (by have:=D.h;omega) _ c _ ⟨_,_,u,B⟩ m m).mono;rintro b b⟨rfl,a:aj _⟩);go_ret;exact⟨eD (by rw[<-s.h,C.h,bB d]),(ap.alloc _).aa<|e.aa a⟩);.go_wp2;go_ret;refine⟨eD ?_,(ap.alloc _).aa e⟩;rw[<-s.h,s9 m,kK]
def lJ(a:bo):Int:=if i6 a 30<0 then -1 else 30 - i6 a 30
def q2{a0:aw}(a:bo)(c:ay)(b:a5)(d:hB a0 b a c):aR aK 187 #[c] b λf g=>f=bg (ag<|lJ a)/\H [] b g:=by
 have e:=y d;obtain⟨h,i,rfl,_⟩:=d;obtain⟨c,b⟩:=CJ a 30;have c:=b m;by_cases b:i6 a 30<0;.go_enter func187,ntmps187;go_wp2_with(go_at_call 230;refine ad (HO _ a0 a (jD _) _ 30 _ (e.I<|ap.alloc _) m m) ?_;rintro d d⟨rfl,c:aj _⟩);go_ret;exact⟨eD (y (bB b:lJ a= -1)).symm,(ap.alloc _).aa c⟩
 .have c:=y (be b:lJ a=30 - i6 a 30);go_enter func187,ntmps187;go_wp2_with(go_at_call 230;refine ad (HO _ a0 a (jD _) _ 30 _ (e.I<|ap.alloc _) m m) ?_;rintro b b⟨rfl,a:aj _⟩);go_ret;exact⟨eD c.symm,(ap.alloc _).aa a⟩
def f8(a:b3)(c d:Int)(b:Nat):Bool:=(dQ a b).cons.length==0&&(dQ a b).cC==c&&(dQ a b).d3==d
def gH(a:b3)(b c:Int):Int:=match(aQ<|j a).find? (f8 a b c)with|G a=>a+1|F=> -1
def HP(a:e<j O)(a:f8 O N Y e=true)(a:∀a,a<e->f8 O N Y a=false):gH O N Y=e+1:=by
 have:(aQ<|j O).find? (f8 O N Y)=G e:=bq;simp[gH,this]
def HQ(a:∀a,a<j O->f8 O N Y a=false):gH O N Y= -1:=by grind[f8,gH]
def Pj(a:b3)(b c:Int):gH a b c= -1\/∃d,d<j a/\gH a b c=d+1/\f8 a b c d=true:=by grind[gH,f8]
def CK(d:ay)(l:b3)(f t:Int)(a:a5)(e:a6 w a (dd l) d):aR aK 217 #[d,ag f,ag t] a λn o=>n=bg (ag<|gH l f t)/\a=o:=by
 obtain⟨v,x,rfl,z,A⟩:=gq e;go_enter func217,ntmps217;go_wp2;go_loop [7](λp=>∃b:Nat,b<=j l/\p=ag b/\∀g,g<b->f8 l f t g=false)(λq=>j l -(intOf q).toNat);.grind
 obtain⟨k,B,rfl,mi:aj _⟩:=hrel;by_cases c:k<j l;(.obtain⟨C,D,E,F,rfl,G,H,I,J,_⟩:=iG (y e) c;(have r:f8 l f t k=(l[k].cons.length==0&&l[k].cC==f&&l[k].d3==t):=by rw[f8,jC c]);have K:=y r;(have s:f8 l f t k=false->∀h,h<k+1->f8 l f t h=false:=λL av M=>HR);have xc:=y s;cases N:((l[k].cons.length:Int)==0);(. (have O:(l[k].cons.length==0)=false:=a3);go_wp2;go_round;(.exact⟨k+1,m,bf,xc<|y (a3:f8 l f t k=false)⟩);exact bc);. (have O:(l[k].cons.length==0)=true:=a3);cases P:(l[k].cC==f);(. exact Pk);.cases Q:(l[k].d3==t);(. exact Pk);.have a:=y (a3:f8 l f t k=true);go_wp2;go_ret;exact⟨eD (by rw[HP c a mi]),u⟩);.go_wp2;go_ret;exact⟨eD (by rw[HQ (λa b=>mi a m)]),u⟩
def ed(a:b3)(b:Int):Bool:=bS 1 b (j a)&&(dQ a (b - 1).toNat).cons.length==0
def sa(e:ay)(a:b3)(b:Int)(d:a5)(f:a6 w d (dd a) e):aR aK 165 #[e,ag b] d λh i=>h=bg (.bool<|ed a b)/\d=i:=by
 obtain⟨n,o,rfl,p,q⟩:=gq f;cases g:bS 1 b (j a);.go_enter func165,ntmps165;go_wp2_with(go_at_call 107;apply(gG _ _ _ _).mono;rintro c c⟨rfl,rfl⟩);go_ret;exact⟨cS (y (by rw[ed,g];rfl:ed a b=false)).symm,u⟩
 .obtain⟨r,s⟩:=fr g;obtain⟨c,t⟩:=dB (m:0<=b - 1);(obtain rfl:b=c+1:=m);(have k:c<j a:=m);(have l:ed a ((c:Int)+1)=((a[c].cons.length:Int)==0):=by grind[ed,jC]);obtain⟨v,x,z,A,rfl,B,_,_,C,_⟩:=iG (y f) k;go_enter func165,ntmps165;go_wp2_with(go_at_call 107;apply(gG _ _ _ _).mono;rintro a a⟨rfl,rfl⟩);go_ret;exact⟨cS (y l).symm,u⟩
def qZ(a:ab)(b:Int):Int:=match(aQ<|j a).find? (λc=>a.getD c 0==b)with|G a=>a|F=> -1
def Pl(a:e<j L)(a:(L[e]==N)=true)(a:∀a,a<e->(L.getD a 0==N)=false):qZ L N=e:=by
 have:(aQ<|j L).find? (λa=>L.getD a 0==N)=G e:=bq;unfold qZ;rw[this]
def Pm(a:∀a,a<j L->(L.getD a 0==N)=false):qZ L N= -1:=by grind[qZ]
theorem Pn(a:ab)(b:Int):qZ a b= -1\/∃c,∃d:c<j a,qZ a b=c/\a[c]=b:=by grind[qZ]
def Po(e:ay)(a:ab)(b:Int)(c:a5)(f:a6 w c (aI a) e):aR aK 180 #[e,ag b] c λl n=>l=bg (ag<|qZ a b)/\c=n:=by
 obtain⟨r,s,rfl,t,v⟩:=bF f;go_enter func180,ntmps180;go_wp2;go_loop [5](λo=>∃d:Nat,d<=j a/\o=ag d/\∀g,g<d->(a.getD g 0==b)=false)(λp=>j a -(intOf p).toNat);.grind
 obtain⟨k,x,rfl,mi:aj _⟩:=hrel;by_cases h:k<j a;(.obtain⟨z,A,rfl,_,B,C⟩:=bY (y f) h;cases q:(a[k]==b);(.go_wp2;go_round;(.exact⟨k+1,m,bf,λav a=>HR⟩);exact bc);.go_wp2;go_ret;exact⟨eD (by rw[Pl h q mi]),u⟩);.go_wp2;go_ret;exact⟨eD (by rw[Pm (λa b=>mi a m)]),u⟩
def ny(a:ab)(b:Int):ab:=((aQ<|j a).filter λc=>a.getD c 0==b).map λ(a:Nat)=>(a:Int)
def q3(a:ab)(b:Int)(c:Nat):ab:=((aQ c).filter λc=>a.getD c 0==b).map λ(a:Nat)=>(a:Int)
theorem HS(b:ab)(c:Int)(a:Nat):j (q3 b c a)<=a:=by grind[List.length_filter_le,q3]
theorem Pp(a:e<j L)(a:(L[e]==N)=true):q3 L N (e+1)=q3 L N e++[(e:Int)]:=by grind[q3,List.range_succ]
theorem Pq(a:e<j L)(a:(L[e]==N)=false):q3 L N (e+1)=q3 L N e:=by grind[q3,List.range_succ]
def Ps{e1:ab}{t aS:Int}(a:aS∈ny e1 t):∃a,∃b:a<j e1,aS=(a:Int)/\e1[a]=t:=by grind[ny]
theorem Pt(a:ny L N=[]):N∉L:=by
 intro b;obtain⟨c,d,e⟩:=mO b;have:(c:Int)∈ny L N:=by grind[ny]
 rw[a]at this;cases this
def Pu(k:ay)(a:ab)(d:Int)(b:a5)(l:a6 w b (aI a) k)(A:j a<=1073741824)(o:∀n,n∈w->n<x b.heap):aR aK 250 #[k,ag d] b (j3 w b 3 1<|b6<|ny a d):=by
 have cD:=y o;obtain⟨B,C,rfl,D,E⟩:=bF l;go_enter func250,ntmps250;go_wp2;go_loopw [5,6](λp r wr=>∃h:Nat,h<=j a/\r=ag h/\H [] b wr/\aU w (x b.heap) wr 3 1 p (b6<|q3 a d h))(λ_ s _=>j a -(intOf s).toNat);.exact⟨0,Nat.zero_le _,u,ap.alloc _,aU.made w _ b _ _ (Nat.le_refl _) cD⟩
 obtain⟨c,F,rfl,e:aj _,i⟩:=hrel;have f:=y i;have G:=e.size;by_cases t:c<j a;(.obtain⟨v,z,rfl,_,J,K⟩:=bY ((y l).I e) t;have L:=HS a d c;cases M:(a[c]==d);(.go_wp2;go_roundw;(.exact⟨c+1,m,bf,e,by grind[Pq]⟩);exact bc);.go_wp2_with(at_builtin;refine kd u _ _ 34 u w (x b.heap) 3 (ag 0) 1 8 f7 eZ u bi u5 _ u (f.alloc _) (q (bU wr 0) 1 1) (b6 [(c:Int)]) u (a6.new (bD:=b6 [(c:Int)]) (iZ _) ⟨u,bA⟩ (qX f a3) tl) (iZ _) v8 v8 aB (λg aL=>j2) ?_;intro v v i v;obtain⟨J,z⟩:=aq i v);go_roundw;(.exact⟨c+1,m,bf,(e.alloc _).trans z.a9 λv z=>bj (f.lt v z).1,by grind[Pp,pZ]⟩);exact bc);. (have v:c=j a:=m);subst v;go_wp2;go_ret;exact⟨_,u,e,f⟩
mutual inductive b7 where|mk(af an b1:Int)(ak:ab)(a7:List cd)inductive cd where|mk(ao:List b7)(aV:Int)end
abbrev bC:=List b7
abbrev dt:=List cd
def b7.af:b7->Int|.mk a _ _ _ _=>a
def b7.an:b7->Int|.mk _ a _ _ _=>a
def b7.b1:b7->Int|.mk _ _ a _ _=>a
def b7.ak:b7->ab|.mk _ _ _ a _=>a
def b7.a7:b7->dt|.mk _ _ _ _ a=>a
def cd.ao:cd->bC|.mk a _=>a
def cd.aV:cd->Int|.mk _ a=>a
theorem b7.eta(a:b7):b7.mk a.af a.an a.b1 a.ak a.a7=a:=by
 cases a;rfl
theorem cd.eta(a:cd):cd.mk a.ao a.aV=a:=by
 cases a;rfl
structure dK where
 aC:ab
 aG:ab
 bu:Int
 aE:cd
structure aH where
 ai:b3
 ah:List dK
def pen(a:Int):Nat:=if a< -4611686018427387904\/9223372036854775807<a then 1000000000000 else 0
theorem xd(a: -4611686018427387904<=N)(a:N<=9223372036854775807):pen N=0:=by grind[pen]
@[simp]def zi:pen 0=0:=by grind[xd]
def zj{n:Int}(a:pen n<1000000000000): -4611686018427387904<=n/\n<=9223372036854775807:=by grind[pen]
mutual def bL:cd->Nat|.mk a _=>ci a+1 def ci:bC->Nat|[]=>0|a::b=>c8 a+ci b def c8:b7->Nat|.mk _ a _ b c=>dR c+j b+1+pen a def dR:dt->Nat|[]=>0|a::b=>bL a+dR b end
theorem i7(a:cd):bL a=ci a.ao+1:=by
 cases a;rw[bL];rfl
theorem hb(a:b7):c8 a=dR a.a7+j a.ak+1+pen a.an:=by
 cases a;rw[c8];rfl
theorem nz:∀{fg:bC}{av:Nat}(a:av<j fg),c8 fg[av]<=ci fg|a::b,0,_=>by rw[ci];simp|c::a,b+1,d=>by rw[ci];have:=nz (fg:=a) (av:=b) a3;simp only[jT];omega
theorem lK:∀{dS:dt}{av:Nat}(a:av<j dS),bL dS[av]<=dR dS|a::b,0,_=>by rw[dR];simp|c::a,b+1,d=>by rw[dR];have:=lK (dS:=a) (av:=b) a3;simp only[jT];omega
theorem kM:∀a:bC,j a<=ci a|[]=>va|a::b=>by rw[ci];have:=kM b;have b:=hb a;simp only[gI];omega
theorem nA:∀a:dt,j a<=dR a|[]=>zk|a::b=>by rw[dR];have:=nA b;have b:=i7 a;simp only[gI];omega
mutual def dC:b7->cq|.mk a b c d e=>[.int a,.int b,.int c,aI d,.arr 2 (xe e)]def xf:bC->List cq|[]=>[]|a::b=>dC a::xf b def fY:cd->cq|.mk a b=>[.arr 5 (xf a),.int b]def xe:dt->List cq|[]=>[]|a::b=>fY a::xe b end
theorem HT:∀a:bC,xf a=a.map dC|[]=>by rw[xf];rfl|b::a=>by rw[xf,HT a];rfl
theorem HU:∀a:dt,xe a=a.map fY|[]=>by rw[xe];rfl|b::a=>by rw[xe,HU a];rfl
def e6(a:bC):D:= .arr 5<|a.map dC
def ld(a:dt):D:= .arr 2<|a.map fY
def zl(s:b7):dC s=[.int s.af,.int s.an,.int s.b1,aI s.ak,ld s.a7]:=by cases s with|mk a b c d e=>rw[dC,HU];rfl
def r0(a:cd):fY a=[e6 a.ao,.int a.aV]:=by cases a with|mk b c=>rw[fY,HT];rfl
def jU(a:b7):j (dC a)=5:=by
 rw[zl];rfl
def vb(a:cd):j (fY a)=2:=by
 rw[r0];rfl
theorem mP(a:bC):∀b∈a.map dC,j b=5:=by
 intro e c;obtain⟨d,_,rfl⟩:=iJ.1 c;exact jU d
def f1(a:dK):cq:=[aI a.aC,aI a.aG,.int a.bu,e6 a.aE.ao,.int a.aE.aV]
def q4(a:List dK):D:= .arr 5<|a.map f1
def Pv(a:List dK):∀b∈a.map f1,j b=5:=by
 intro d c;obtain⟨e,_,rfl⟩:=iJ.1 c;rfl
section
variable{a0:aw}{A:a5}{v:ay}{a:az}{n du:Nat}
theorem oZ{b:bC}(b2:a6 a0 A (e6 b) v):∃d c,v=q d (j b) c/\j b<=c/\c<=9223372036854775807:=tm
theorem CL{b:dt}(b2:a6 a0 A (ld b) v):∃d c,v=q d (j b) c/\j b<=c/\c<=9223372036854775807:=tm
theorem Pw{b:List dK}(b2:a6 a0 A (q4 b) v):∃d c,v=q d (j b) c/\j b<=c/\c<=9223372036854775807:=tm
theorem jf{b:bC}(p:a6 a0 A (e6 b) (q a n du))(L:e<j b):∃c d g h k l,a=aX c d/\c∉a0/\c<x A.heap/\aZ A c (d+e*5) (ag b[e].af)/\aZ A c (d+e*5+1) (ag b[e].an)/\aZ A c (d+e*5+2) (ag b[e].b1)/\aZ A c (d+e*5+3) (q g b[e].ak.length h)/\aZ A c (d+e*5+4) (q k b[e].a7.length l)/\a6 a0 A (aI b[e].ak) (q g b[e].ak.length h)/\a6 a0 A (ld b[e].a7) (q k b[e].a7.length l):=by
 obtain⟨r,s,t,u,v,_,f⟩:=a6.dA p (av:=e) a3;rw[kc,zl]at f;simp only[fp,a6]at f;obtain⟨⟨M,y,rfl⟩,⟨N,z,rfl⟩,⟨O,B,rfl⟩,⟨P,C,D⟩,⟨Q,E,F⟩,_⟩:=f;have m:=D;have o:=F;obtain⟨H,I,rfl,_⟩:=bF m;obtain⟨J,K,rfl,_⟩:=CL o;exact⟨r,s,H,I,J,K,t,u,v,y,z,B,C,E,m,o⟩
def ki{b:dt}(m:a6 a0 A (ld b) (q a n du))(B:e<j b):∃c d g h,a=aX c d/\c∉a0/\c<x A.heap/\aZ A c (d+e*2) (q g b[e].ao.length h)/\aZ A c (d+e*2+1) (ag b[e].aV)/\a6 a0 A (e6 b[e].ao) (q g b[e].ao.length h):=by
 obtain⟨o,p,r,s,t,_,f⟩:=a6.dA m (av:=e) a3;rw[kc,r0]at f;simp only[fp]at f;obtain⟨⟨C,u,k⟩,⟨D,v,l⟩,_⟩:=f;simp only[a6]at l;subst l;obtain⟨y,z,rfl,_⟩:=oZ k;exact⟨o,p,y,z,r,s,t,u,v,k⟩
def hN{l:List dK}(u:a6 a0 A (q4 l) (q a n du)){av:Nat}(P:av<j l):∃b c e f g h k m,a=aX b c/\b∉a0/\b<x A.heap/\aZ A b (c+av*5) (q e l[av].aC.length f)/\aZ A b (c+av*5+1) (q g l[av].aG.length h)/\aZ A b (c+av*5+2) (ag l[av].bu)/\aZ A b (c+av*5+3) (q k l[av].aE.ao.length m)/\aZ A b (c+av*5+4) (ag l[av].aE.aV)/\a6 a0 A (aI l[av].aC) (q e l[av].aC.length f)/\a6 a0 A (aI l[av].aG) (q g l[av].aG.length h)/\a6 a0 A (e6 l[av].aE.ao) (q k l[av].aE.ao.length m):=by
 obtain⟨v,y,z,B,C,_,d⟩:=a6.dA u (av:=av) a3;rw[kc,f1]at d;simp only[fp]at d;obtain⟨⟨Q,D,o⟩,⟨R,E,p⟩,⟨S,F,r⟩,⟨T,H,s⟩,⟨U,I,t⟩,_⟩:=d;simp only[a6]at r t;subst r t;obtain⟨J,K,rfl,_⟩:=bF o;obtain⟨L,M,rfl,_⟩:=bF p;obtain⟨N,O,rfl,_⟩:=oZ s;exact⟨v,y,J,K,L,M,N,O,z,B,C,D,E,F,H,I,o,p,s⟩
end
def i8(b:aw)(c:a5)(a:b7)(h:ay):Prop:=∃d e f g,h=aO #[ag a.af,ag a.an,ag a.b1,q d (j a.ak) e,q f (j a.a7) g]/\a6 b c (aI a.ak) (q d (j a.ak) e)/\a6 b c (ld a.a7) (q f (j a.a7) g)
def ob(d:aw)(e:a5)(a:cd)(f:ay):Prop:=∃b c,f=aO #[q b (j a.ao) c,ag a.aV]/\a6 d e (e6 a.ao) (q b (j a.ao) c)
theorem i8.a9{a0:aw}{A:a5}{b:b7}{cY:aw}(e:i8 a0 A b K)(c:H cY A i)(d:∀a,a∈cY->a∈a0\/x A.heap<=a):i8 a0 i b K:=by
 obtain⟨a,b,f,g,h,i,j⟩:=e;exact⟨a,b,f,g,h,i.a9 c d,j.a9 c d⟩
theorem ob.a9{a0:aw}{A:a5}{b:cd}{cY:aw}(c:ob a0 A b K)(d:H cY A i)(e:∀a,a∈cY->a∈a0\/x A.heap<=a):ob a0 i b K:=by
 obtain⟨a,b,f,g⟩:=c;exact⟨a,b,f,g.a9 d e⟩
theorem i8.sub{a0 bz:aw}{b:b7}(d:i8 a0 i b K)(c:∀a,a∈bz->a∈a0\/x i.heap<=a):i8 bz i b K:=by
 obtain⟨a,b,e,f,g,h,i⟩:=d;exact⟨a,b,e,f,g,h.sub c,i.sub c⟩
theorem ob.sub{a0 bz:aw}{b:cd}(c:ob a0 i b K)(d:∀a,a∈bz->a∈a0\/x i.heap<=a):ob bz i b K:=by
 obtain⟨a,b,e,f⟩:=c;exact⟨a,b,e,f.sub d⟩
def dp(a:b3)(b:ab):Bool:=b.all λb=>bS 0 b<|j a
def kj(a:b3)(b:Nat):Bool:=if 0<(dQ a b).cons.length then decide ((dQ a b).cons.length<=3)&&(dQ a b).cC==0&&(dQ a b).d3==0&&(dQ a b).cons.all λc=>decide (j c<=3)&&dp a c else !((aQ b).any λc=>f8 a (dQ a b).cC (dQ a b).d3 c)&&bS 0 (dQ a b).cC (j a)&&bS 0 (dQ a b).d3 (j a)
def nB(a:b3):Bool:=decide (j a<=4)&&(aQ<|j a).all (kj a)
def tr(b:b3)(a:dK):Bool:=decide (j a.aC<=3)&&dp b a.aC&&bS 0 a.bu (j b)
def dh(a:aH)(b:Nat):dK:=a.ah.getD b ⟨[],[],0,.mk [] 0⟩
def p0(a:aH):Bool:=nB a.ai&&bS 1 (j a.ah) 4&&a.ah.all (tr a.ai)&&(dh a 0).aC.length==0&&(dh a 0).bu==0
def jE(c b:ab)(a:Nat):Bool:=bS 0 (b.getD a 0) (j c - 1)&&c.getD (b.getD a 0).toNat 0 !=0&&!(decide (0<a)&&decide (b.getD a 0<=b.getD (a - 1) 0))
def kk(b a:ab):Bool:=(aQ<|j a).all<|jE b a
def dU(a:aH):Bool:=decide (j a.ah<=4)&&p0 a&&a.ah.all λa=>kk a.aC a.aG
def eE(a:Int):Bool:=bS 14 a 17
def gr(a:Int):Bool:=bS 0 a 11
def iK(a:Int):Bool:=a==0||a==6||a==8||a==9||a==10
def eF(c a d:ab):Bool:=j a==j d&&(aQ<|j a).all λb=>bS 0 (aP a b 0) (j c - 1)&&aP c (aP a b 0).toNat 0==aP d b 0
def kl(a:aH)(c:ab)(e b:Int)(d:ab):Int:=if bS 0 b (j a.ah - 1)then if e=9 then(if eF c d (dh a<|bw b).aC then(dh a<|bw b).bu else -1)else if(dh a<|bw b).aC.length=0\/0<(dh a<|bw b).aG.length\/eF c d ((dh a<|bw b).aC.take<|(dh a<|bw b).aC.length - 1)=false then -1 else gH a.ai ((dh a<|bw b).aC.getD ((dh a<|bw b).aC.length - 1) 0) (dh a<|bw b).bu else -1
def iL(d:aH)(b:ab)(c:Int)(a:ab):Int:=if j a=1/\bS 0 (aP a 0 0) (j b - 1)=true/\aP b (aP a 0 0).toNat 0≠0 then if c≠14/\c≠15/\ed d.ai (aP b (aP a 0 0).toNat 0)=true then -1 else 0 else -1
def kN(b:ab)(c a:Int):Bool:=if a=0 then true else c==6&&bS 1 a (j b)&&decide (0<aP b (a - 1).toNat 0)
def ip(b:ab)(a:b7):Bool:=!(a.an !=0&&!iK a.af)&&kN b a.af a.b1&&!(decide (0<j a.a7)&&a.af !=7&&a.af !=8)
def f2(d:aH)(c:ab)(a e:Int)(b:ab):Int:=if a=0 then(if j b=0/\bS (-999) e 999=true then 0 else -1)else if a=1\/a=2\/a=3\/a=4 then(if eF c b [0,0]then 0 else -1)else if a=5 then(if eF c b [0]then 0 else -1)else if a=6 then(if 0<eC d.ai e/\eF c b (bh d.ai e)=true then eC d.ai e else -1)else if a=9\/a=10 then kl d c a e b else if a=11 then(if j b=2/\bS 0 (aP b 0 0) (j c - 1)=true/\ed d.ai (aP c (aP b 0 0).toNat 0)=true then(if eF c b.tail [(dQ d.ai (aP c (aP b 0 0).toNat 0 - 1).toNat).cC]then(dQ d.ai (aP c (aP b 0 0).toNat 0 - 1).toNat).d3 else -1)else -1)else if a=14\/a=15\/a=16\/a=17 then iL d c a b else -1
def bO(a:aH)(b c:Int):List ab:=if b=8 then(bx a.ai c).map (bh a.ai)else [[],[]]
mutual def dO(b:aH)(c:ab):cd->Int|.mk d a=>match dI b c d with|F=> -1|G b=>if bS 0 a (j b - 1)then b.getD (bw a) 0 else -1 def dI(b:aH)(a:ab):bC->Option ab|[]=>G a|c::d=>if cU b a c<0 then F else dI b (if gr c.af then a++[cU b a c]else a) d def cU(a:aH)(b:ab):b7->Int|.mk e c g f d=>if ip b (.mk e c g f d)=false then -1 else if e=7 then(if eF b f [0]then(if j d=2 then f3 a b d [[],[]] F else -1)else -1)else if e=8 then(if eF b f [c]then(if 0<j (bx a.ai c)/\j d=j (bx a.ai c)then f3 a b d ((bx a.ai c).map<|bh a.ai) F else -1)else -1)else f2 a b e c f def f3(a:aH)(b:ab):dt->List ab->Option Int->Int|[],_,c=>c.getD 0|d::f,c,e=>if dO a (b++c.headD []) d<0\/(e≠F/\e≠G (dO a (b++c.headD []) d))then -1 else f3 a b f c.tail (G<|dO a (b++c.headD []) d)end
mutual def h4:cd->Int->Option Int|.mk a _,b=>lg a b def lg:bC->Int->Option Int|[],a=>G a|b::c,a=>if a<1 then F else match sb b (a - 1)with|F=>F|G a=>lg c a def sb:b7->Int->Option Int|.mk _ _ _ _ a,b=>lL a b def lL:dt->Int->Option Int|[],a=>G a|a::b,c=>match h4 a c with|F=>F|G a=>lL b a end
def oc(b:aH)(a:dK):Bool:=(h4 a.aE 600).isSome&&dO b a.aC a.aE==a.bu
def hl(a:aH):Bool:=dU a&&a.ah.all (oc a)
def gJ(a:ab):ab->Option ab|[]=>G []|b::c=>if b<0\/(j a:Int)<=b then F else(gJ a c).map (aP a (bw b) 0:: ·)
def gA(b:aH)(c a:Int)(d:ab):Int×Bool:=if c=0 then(0,decide (-999<=a)&&decide (a<=999)&&j d==0)else if c=1\/c=2\/c=3\/c=4 then(0,a==0&&d==[0,0])else if c=5 then(0,a==0&&d==[0])else if c=11 then(if j d≠2 then(-1,false)else if ed b.ai (d.getD 0 0)then((dQ b.ai (d.getD 0 0 - 1).toNat).d3,d.getD 1 0==(dQ b.ai (d.getD 0 0 - 1).toNat).cC&&a==0)else(0,false))else if c=6 then(eC b.ai a,decide (0<=eC b.ai a)&&d==bh b.ai a)else if c=9\/c=10 then(if a<0\/(j b.ah:Int)<=a then(-1,false)else if c=9 then((dh b<|bw a).bu,d==(dh b<|bw a).aC)else if(dh b<|bw a).aC.length=0 then(-1,false)else(gH b.ai ((dh b<|bw a).aC.getD ((dh b<|bw a).aC.length - 1) 0) (dh b<|bw a).bu,decide (0<=gH b.ai ((dh b<|bw a).aC.getD ((dh b<|bw a).aC.length - 1) 0) (dh b<|bw a).bu)&&d==(dh b<|bw a).aC.take ((dh b<|bw a).aC.length - 1)))else(-1,false)
def q5(c:aH)(b d:Int)(a:ab)(e:Nat):Bool:=j a==1&&a.getD 0 0 !=0&&d==0&&e==0&&!((b==16||b==17)&&ed c.ai (a.getD 0 0))
mutual def km(b:aH)(c:ab):cd->Int|.mk d a=>match mQ b c d with|F=> -1|G b=>if a<0\/(j b:Int)<=a then -1 else aP b (bw a) 0 def mQ(b:aH)(a:ab):bC->Option ab|[]=>G a|c::d=>if(fQ b a c).2=false then F else mQ b (if eE c.af then a else a++[(fQ b a c).1]) d def fQ(a:aH)(f:ab):b7->Int×Bool|.mk c b g e d=>match gJ f e with|F=>(-1,false)|G e=>if g≠0/\(c≠6\/g<1\/(j f:Int)<g\/aP f (g - 1).toNat 0=0)then(-1,false)else if eE c then(-1,q5 a c b e (j d))else if c=7 then(if j e≠1\/e.getD 0 0≠0\/b≠0\/j d≠2 then(-1,false)else hc a f d [[],[]] F)else if c=8 then(if j e≠1\/e.getD 0 0≠b\/j (bx a.ai b)=0\/j d≠j (bx a.ai b)then(-1,false)else hc a f d ((bx a.ai b).map<|bh a.ai) F)else if 0<j d\/(c=10/\0<=b/\b<j a.ah/\0<(dh a<|bw b).aG.length)then(-1,false)else gA a c b e def hc(a:aH)(b:ab):dt->List ab->Option Int->Int×Bool|[],_,c=>(c.getD (-1),true)|d::f,c,e=>if km a (b++c.headD []) d<0\/(e≠F/\e≠G (km a (b++c.headD []) d))then(-1,false)else hc a b f c.tail (G<|km a (b++c.headD []) d)end
theorem od(a:ab):∀b:ab,gJ a b=if b.all (λc=>bS 0 c<|j a - 1)then G (b.map λb=>aP a (bw b) 0)else F|[]=>by simp[gJ]|b::c=>by rw[gJ,od a c];by_cases c:b<0\/(j a:Int)<=b;(.grind[bS,fr]);.grind[bS,mM]
def vc(a b:ab):∀d:ab,eF a d b=((gJ a d).elim false λf=>f==b):=by
 intro e;rw[od];by_cases c:e.all (λg=>bS 0 g<|j a - 1)=true;.rw[bB c];simp only[Option.elim];rw[xg];simp only[eF,fH,kf,hC,gB];constructor;(.rintro⟨h,h⟩;refine xh a3 λh h h=>?_;grind);.grind
 .rw[be c];simp only[Option.elim];cases h:eF a e b;(.rfl);.exfalso;apply c;simp only[eF,fH,hC,gB]at h;grind[List.all_eq_true,List.getElem_of_mem]
theorem ts{a:Int}:bS N Y a=true↔N<=Y/\Y<=a:=by simp[bS]
theorem find_range{a:Nat->Bool}(b:(aQ e).find? a=G J):J<e/\a J=true:=a3
theorem CM(a:b3)(b:Int):eC a b= -1\/(1<=eC a b/\eC a b<=j a):=by grind[eC,find_range]
def Px(a:b3)(b c:Int):gH a b c= -1\/(1<=gH a b c/\gH a b c<=j a):=by grind[gH]
def jg(b:b3)(a:Int):Prop:=0<=a/\a<=j b
theorem HV:dp O L=true↔∀a∈L,jg O a:=by simp[dp,ts,jg]
structure a1q(n:aH):Prop where
 bT:dU n=true
variable{M:aH}
theorem vd(a:dU M=true):nB M.ai=true:=by grind[dU,p0]
def CN(c:dU M=true)(a:Nat):dp M.ai (dh M a).aC=true/\jg M.ai (dh M a).bu:=by
 simp only[dU,p0,fH,hC]at c;by_cases d:a<j M.ah;.have b:=c.1.2.1.1.2 (dh M a) (by simp[dh,d]);simp only[tr,fH,ts]at b;exact⟨b.1.2,b.2⟩
 .simp[dh,d,dp,jg]
def CO(c:nB O=true)(b:Nat):jg O (dQ O b).cC/\jg O (dQ O b).d3/\∀a∈(dQ O b).cons,dp O a=true:=by
 simp only[nB,fH,hC,gB]at c;by_cases d:b<j O;.have a:=c.2 b d;unfold kj at a;split at a;(.simp only[fH,kf,hC]at a;grind[jg]);.rename_i b;simp only[fH,ts]at a;refine⟨a.1.2,a.2,λa a=>?_⟩;grind
 .simp[dQ,d,jg]
theorem zm(b:nB O=true)(a:Int):dp O (bh O a)=true:=by
 unfold bh;split;.simp[dp]
 .rw[gS];cases c:(dQ O (eC O a - 1).toNat).cons[(a - dg O (eC O a - 1).toNat).toNat]? with|none=>simp[dp]|some d=>simp only[ve];exact(CO b _).2.2 d<|sc c
def Py{b:ab}(a:gJ L X=G b)(e:dp O L=true):dp O b=true:=by
 rw[od]at a;split at a;.rename_i c;cases a;simp only[hC]at c;rw[HV]at e⊢;intro h f;obtain⟨d,g,rfl⟩:=iJ.1 f;have:=fr<|c d g;(have c:bw d<j L:=m);simp only[gS,hm c,ve];grind
 .cases a
def Pz(c:dU M=true)(d:ab)(e a:Int)(f:ab)(b:0<=f2 M d e a f):jg M.ai (f2 M d e a f):=by
 have d:jg M.ai 0:=by simp[jg]
 have e:¬(0:Int)<= -1:=m;revert b;unfold f2 iL kl;repeat' split
 all_goals first|(intro _;exact d)|(intro b;exact absurd b e)|(intro _;exact(CN c _).2)|(intro _;exact(CO (vd c) _).2.1)|(intro b;rcases Px M.ai ((dh M<|bw a).aC.getD ((dh M<|bw a).aC.length - 1) 0) (dh M<|bw a).bu with c|c<;>(simp only[jg];omega))|(intro b;rcases CM M.ai a with c|c<;>(simp only[jg];omega))
def PA(i:dU M=true)(r:dp M.ai L=true)(b a:Int)(ak:ab)(C:eE b=false)(D:b≠7)(E:b≠8):match gJ L ak with|F=>f2 M L b a ak<0|G f=>((a=0\/iK b=true)/\0<=f2 M L b a ak↔(gA M b a f).2=true/\¬(b=10/\0<=a/\a<j M.ah/\0<(dh M<|bw a).aG.length))/\(0<=f2 M L b a ak->(gA M b a f).2=true->(gA M b a f).1=f2 M L b a ak):=by
 have H:¬(14<=b/\b<=17):=HW;cases d:gJ L ak with|none=>((have g:∀h,eF L ak h=false:=λo=>by rw[vc,d];rfl);(have p:ak≠[]:=by grind[gJ]);(have q:j ak≠0:=a3);simp only[];(have k:j ak=2->bS 0 (aP ak 0 0) (j L - 1)=true->∀l,eF L ak.tail l=false:=by intro oe c s;(obtain⟨t,v,rfl⟩:∃e n,ak=[e,n]:=PB);rw[vc];simp only[zn];have e:=fr c;simp at e;rw[gJ,be m]at d;simp_all);unfold f2 kl;simp only[g];(repeat' split);all_goals first|omega|(rename_i c e;rw[k c.1 c.2.1]at e;cases e)|(simp_all;done))|some c=>(have e:∀k,eF L ak k=(c==k):=λI=>by rw[vc,d];rfl);have s:=Py d r;simp only[];by_cases t:b=0;(.subst t;(have h:j c=j ak:=by grind[od]);(have g:f2 M L 0 a ak=if j ak=0/\bS (-999) a 999=true then 0 else -1:=zo);(have l:gA M 0 a c=(0,decide (-999<=a)&&decide (a<=999)&&j c==0):=by simp[gA]);rw[g,l];by_cases g:j ak=0/\bS (-999) a 999=true;(.have l:=fr g.2;rw[bB g];grind[iK]);.rw[be g];refine⟨⟨λg=>absurd g.2 m,λg=>?_⟩,λl=>absurd l m⟩;simp only[h,fH,xi,kf]at g;grind[absurd,mM]);by_cases J:b=1\/b=2\/b=3\/b=4;(.grind[iK,f2,gA]);by_cases K:b=5;(.grind[f2,gA,iK]);by_cases v:b=6;(.subst v;simp only[f2,gA,e];by_cases g:c=bh M.ai a;(.grind[bh,CM,eC,iK]);grind);by_cases w:b=9;(.subst w;simp only[f2,gA,kl,e];by_cases g:a<0\/(j M.ah:Int)<=a;(.grind[bS,fr]);.have g:bS 0 a (j M.ah - 1)=true:=mM m m;have g:=(CN i<|bw a).2.1;by_cases g:c=(dh M<|bw a).aC;(.grind[dh,iK]);grind);by_cases x:b=10;(.subst x;simp only[f2,gA,kl,e];by_cases g:a<0\/(j M.ah:Int)<=a;(.grind[bS,fr]);.grind[bS,mM,dh,iK]);by_cases y:b=11;(.subst y;(have l:f2 M L 11 a ak=(if j ak=2/\bS 0 (aP ak 0 0) (j L - 1)=true/\ed M.ai (aP L (aP ak 0 0).toNat 0)=true then(if eF L ak.tail [(dQ M.ai (aP L (aP ak 0 0).toNat 0 - 1).toNat).cC]then(dQ M.ai (aP L (aP ak 0 0).toNat 0 - 1).toNat).d3 else -1)else -1):=zo);(have n:gA M 11 a c=(if j c≠2 then(-1,false)else if ed M.ai (c.getD 0 0)then((dQ M.ai (c.getD 0 0 - 1).toNat).d3,c.getD 1 0==(dQ M.ai (c.getD 0 0 - 1).toNat).cC&&a==0)else(0,false)):=by simp[gA]);rw[l,n];rw[od]at d;split at d;(.rename_i g;cases d;by_cases oe:j ak=2;(. (obtain⟨o,h,rfl⟩:∃z A,ak=[z,A]:=PB);simp only[List.all_cons,List.all_nil,HX,fH]at g;(have B:∀p,eF L [h] [p]=(aP L (bw h) 0==p):=λN=>by rw[vc,od];simp[g.2]);have O:=(CO (vd i) (aP L (bw o) 0 - 1).toNat).2.1.1;clear l n s e;simp only[gI,jV,h0,mh,HY,List.getD_cons_succ,zn,B,g.1];generalize aP L (bw o) 0=q at*;generalize dQ M.ai (q - 1).toNat=P at*;generalize aP L (bw h) 0=Q at*;by_cases g:ed M.ai q=true;(.grind[iK]);.simp[g]);grind);.cases d);(have d:f2 M L b a ak= -1:=by grind[f2]);(have e:gA M b a c=(-1,false):=by grind[gA]);rw[d,e];simp
theorem xj(a:dp O L=true)(b:dp O X=true):dp O (L++X)=true:=by
 simp only[dp,HZ,fH]at*;exact⟨a,b⟩
def zp(b:dp O L=true)(a:jg O N):dp O (L++[N])=true:=xj b (by simp[dp,bS,a.1,a.2])
theorem I0(b:dp O L=true)(a:Nat):jg O (L.getD a 0):=by
 rw[gS];cases c:L[a]? with|none=>simp[jg]|some d=>grind[HV,List.mem_of_getElem?]
def PC{a:List ab}(c:∀b∈a,dp O b=true):dp O (a.headD [])=true:=by cases a with|nil=>simp[dp]|cons d _=>grind
theorem r1{ml n h2:Int}(a:n<ml\/h2<n):bS ml n h2=false:=by grind[bS,fr]
structure CP(n:aH)(am:ab)(s:b7):Prop where
 ok:(fQ n am s).2=true↔0<=cU n am s
 val:0<=cU n am s->eE s.af=false->(fQ n am s).1=cU n am s
 jh:0<=cU n am s->jg n.ai (cU n am s)
 df:0<=cU n am s->gr s.af=!eE s.af
structure I1(n:aH)(am:ab)(dS:dt)(aD:List ab)(t:Option Int):Prop where
 ok:(hc n am dS aD t).2=true↔0<=f3 n am dS aD t
 val:0<=f3 n am dS aD t->(hc n am dS aD t).1=f3 n am dS aD t
 jh:0<=f3 n am dS aD t->jg n.ai (f3 n am dS aD t)
def PD(c:dp O L=true)(b a:Int):kN L b a=true↔¬(a≠0/\(b≠6\/a<1\/(j L:Int)<a\/aP L (a - 1).toNat 0=0)):=by
 unfold kN;by_cases b:a=0;.simp[b]
 .have:=I0 c (a - 1).toNat;rw[be b];simp only[fH,kf,ts,xi,jg]at*;constructor;(.omega);.grind
theorem j4(a:aH)(b:ab)(e c g:Int)(f:ab)(d:dt):cU a b (.mk e c g f d)=if ip b (.mk e c g f d)=false then -1 else if e=7 then(if eF b f [0]then(if j d=2 then f3 a b d [[],[]] F else -1)else -1)else if e=8 then(if eF b f [c]then(if 0<j (bx a.ai c)/\j d=j (bx a.ai c)then f3 a b d ((bx a.ai c).map<|bh a.ai) F else -1)else -1)else f2 a b e c f:=by rw[cU]
def PE(q:dU M=true)(v:dp M.ai L=true)(b a e:Int)(c:ab)(d:dt)(w:∀x,(∀B∈x,dp M.ai B=true)->d≠[]->I1 M L d x F):CP M L (.mk b a e c d):=by
 have C:=PD v b e;have h:(fQ M L<|.mk b a e c d).2=false->cU M L (.mk b a e c d)<0->CP M L (.mk b a e c d):=λO P=>⟨⟨λQ=>a3,λR=>m⟩,λS=>m,λT=>m,λU=>m⟩;cases s:kN L b e;. (have f:e≠0/\(b≠6\/e<1\/(j L:Int)<e\/aP L (e - 1).toNat 0=0):=PF λg=>a3);refine h ?_ ?_;(.rw[fQ];cases gJ L c with|none=>rfl|some i=>grind);.rw[j4,bB (by simp[ip,b7.af,b7.b1,s])];omega
 have i:¬(e≠0/\(b≠6\/e<1\/(j L:Int)<e\/aP L (e - 1).toNat 0=0)):=C.1 s;have k:ip L (.mk b a e c d)=(!(a !=0&&!iK b)&&!(decide (0<j d)&&b !=7&&b !=8)):=by simp only[ip,b7.af,b7.an,b7.b1,b7.a7,s,HX];rfl
 by_cases f:eE b=true;.have V:=fr f;(have D:b≠7:=m);(have E:b≠8:=m);(have H:iK b=false:=by simp only[iK,Bool.or_eq_false_iff,xk];omega);(have t:cU M L (.mk b a e c d)=if a=0/\j d=0 then iL M L b c else -1:=by rw[j4,k,be D,be E];(have g:f2 M L b a c=iL M L b c:=by unfold f2;omega);rw[g];by_cases g:a=0;(.by_cases l:j d=0;(.simp[g,l]);simp_all);.simp[g,H]);(have I:fQ M L (.mk b a e c d)=match gJ L c with|F=>(-1,false)|G J=>(-1,q5 M b a J (j d)):=by rw[fQ];cases gJ L c with|none=>rfl|some g=>simp only[];rw[be i,bB f]);(have K:(fQ M L<|.mk b a e c d).2=true↔0<=cU M L (.mk b a e c d):=by rw[I,t];by_cases l:a=0/\j d=0;(.rw[bB l];match c with|[]=>simp[gJ,q5,iL]|[g]=>by_cases y:g<0\/(j L:Int)<=g;(.simp[gJ,y,iL,r1 (ml:=0) (h2:=L.length - 1) (n:=g) m]);.have p:bS 0 g (j L - 1)=true:=mM m m;simp only[gJ,y,nC,zq,q5,iL,gI,jV,HY,p,l.1,l.2];generalize aP L (bw g) 0=o;by_cases p:o=0;(.simp[p]);.by_cases z:b=16\/b=17;(. (have A:b≠14/\b≠15:=m);cases ed M.ai o<;>rcases z with rfl|rfl<;>simp[p]);. (have z:b=14\/b=15:=m);cases ed M.ai o<;>rcases z with rfl|rfl<;>simp[p]|p::z::A=>(have N:iL M L b (p::z::A)= -1:=by simp[iL]);rw[N];cases o:gJ L (p::z::A)with|none=>simp|some W=>rw[od]at o;split at o;(.cases o;simp[q5]);.cases o);.rw[be l];cases gJ L c with|none=>simp|some g=>grind[q5]);refine⟨K,λ_ g=>(by rw[show eE (b7.mk b a e c d).af=eE b from u,f]at g;cases g),λg=>?_,λg=>?_⟩;(.rw[t]at g⊢;revert g;unfold iL;(repeat' split);all_goals first|(intro _;simp[jg];done)|(intro g;exact absurd g m));.show gr b=!eE b;rw[f];exact r1<|bj m
 . (have f:eE b=false:=a3);(have N:¬(14<=b/\b<=17):=λV=>HW);by_cases l:b=7;(.subst l;(have p1:cU M L (.mk 7 a e c d)=if a=0/\eF L c [0]=true/\j d=2 then f3 M L d [[],[]] F else -1:=by rw[j4,k];by_cases g:a=0;(.grind);.simp[g,iK]);(have zr:fQ M L (.mk 7 a e c d)=if a=0/\eF L c [0]=true/\j d=2 then hc M L d [[],[]] F else(-1,false):=by rw[fQ,vc];cases g:gJ L c with|none=>simp|some dx=>simp only[f,be i,Option.elim];by_cases o:dx=[0];(.grind);. (have p:(dx==[0])=false:=a3);(have:j dx≠1\/dx.getD 0 0≠0\/a≠0\/j d≠2:=PG);grind);by_cases ji:a=0/\eF L c [0]=true/\j d=2;(.have cy:=w [[],[]] (by simp[dp]) a3;exact PH);grind);by_cases o:b=8;(.subst o;(have p1:cU M L (.mk 8 a e c d)=if eF L c [a]=true/\0<j (bx M.ai a)/\j d=j (bx M.ai a)then f3 M L d ((bx M.ai a).map<|bh M.ai) F else -1:=by rw[j4,k];by_cases g:eF L c [a]=true;(.by_cases p:0<j (bx M.ai a)/\j d=j (bx M.ai a)<;>simp[g,p,iK]);grind);(have zr:fQ M L (.mk 8 a e c d)=if eF L c [a]=true/\0<j (bx M.ai a)/\j d=j (bx M.ai a)then hc M L d ((bx M.ai a).map<|bh M.ai) F else(-1,false):=by rw[fQ,vc];cases p:gJ L c with|none=>simp|some dx=>simp only[f,be i,Option.elim];generalize bx M.ai a=g;by_cases p:dx=[a];(.grind);. (have t:(dx==[a])=false:=a3);(have:j dx≠1\/dx.getD 0 0≠a\/j g=0\/j d≠j g:=PG);grind);by_cases ji:eF L c [a]=true/\0<j (bx M.ai a)/\j d=j (bx M.ai a);(.have cy:=w ((bx M.ai a).map<|bh M.ai) (λt g=>by obtain⟨p,_,rfl⟩:=iJ.1 g;exact zm (vd q) p) a3;exact PH);grind);have p:=PA q v b a c f l o;(have y:cU M L (.mk b a e c d)=if(a=0\/iK b=true)/\j d=0 then f2 M L b a c else -1:=by rw[j4,k,be l,be o];by_cases g:a=0\/iK b=true;(.by_cases t:j d=0;(.rcases g with g|g<;>simp[g,t]);simp_all);grind);(have g:fQ M L (.mk b a e c d)=match gJ L c with|F=>(-1,false)|G D=>if 0<j d\/(b=10/\0<=a/\a<j M.ah/\0<(dh M<|bw a).aG.length)then(-1,false)else gA M b a D:=by rw[fQ];cases gJ L c with|none=>rfl|some t=>simp only[f,be i,be l,be o];rfl);(have W:0<=f2 M L b a c->gr b=true:=λX=>by refine mM ?_ ?_;all_goals refine PF λt=>?_;(have:f2 M L b a c= -1:=by unfold f2;omega);omega);cases z:gJ L c with|none=>rw[z]at p g;simp only[]at p g;refine h (by rw[g]) ?_;omega|some E=>rw[z]at p g;simp only[]at p g;by_cases H:0<j d;(.refine h a3 ?_;omega);. (have Y:j d=0:=m);by_cases I:b=10/\0<=a/\a<j M.ah/\0<(dh M<|bw a).aG.length;(.refine h a3 ?_;rw[y];split;(.grind);.omega);.rw[be (λJ=>J.elim H I)]at g;(have Z:(gA M b a E).2=true↔0<=cU M L (.mk b a e c d):=by rw[y];constructor;(.grind);.intro t;split at t;(.grind);.omega);(have K:0<=cU M L (.mk b a e c d)->0<=f2 M L b a c/\cU M L (.mk b a e c d)=f2 M L b a c:=λa0=>m);refine⟨bq,λt _=>?_,λt=>?_,λt=>?_⟩;(.grind);(.have A:=K t;rw[A.2];exact Pz q L b a c A.1);.show gr b=!eE b;grind
theorem sd(a:aH)(b:ab)(d:cd)(f:dt)(c:List ab)(e:Option Int):f3 a b (d::f) c e=if dO a (b++c.headD []) d<0\/(e≠F/\e≠G (dO a (b++c.headD []) d))then -1 else f3 a b f c.tail (G<|dO a (b++c.headD []) d):=by rw[f3]
theorem CQ(a:aH)(b:ab)(d:cd)(f:dt)(c:List ab)(e:Option Int):hc a b (d::f) c e=if km a (b++c.headD []) d<0\/(e≠F/\e≠G (km a (b++c.headD []) d))then(-1,false)else hc a b f c.tail (G<|km a (b++c.headD []) d):=by rw[hc]
mutual theorem I2{c:aH}(C:dU c=true):∀(h:cd)(f:ab),dp c.ai f=true->km c f h=dO c f h/\(0<=dO c f h->jg c.ai (dO c f h))|.mk o W,p,I=>by have a:=zs C o p I;rw[km,dO,a.1];cases b:dI c p o with|none=>simp|some d=>grind[r1,mM,I0]theorem zs{b:aH}(j:dU b=true):∀(k:bC)(i:ab),dp b.ai i=true->mQ b i k=dI b i k/\∀q,dI b i k=G q->dp b.ai q=true|[],X,Y=>by grind[mQ,dI]|d::r,e,l=>by have a:=vf j d e l;rw[mQ,dI];by_cases g:0<=cU b e d;(.have n:=a.ok.2 g;rw[be a3,be (show¬(cU b e d<0)by omega),a.df g];cases m:eE d.af;(.rw[a.val g m];exact zs j r _<|zp l<|a.jh g);.exact zs j r _ l);. (have m:(fQ b e d).2=false:=by cases n:(fQ b e d).2;(.rfl);.exact absurd (a.ok.1 n) g);rw[bB m,bB (show cU b e d<0 by omega)];exact⟨u,a3⟩theorem vf{m:aH}(s:dU m=true):∀(J:b7)(t:ab),dp m.ai t=true->CP m t J|.mk K L M N v,O,w=>PE s w K L M N v λP Q R=>I3 s v P F O w Q (aM R) a3 theorem I3{a:aH}(x:dU a=true):∀(y:dt)(z:List ab)(n:Option Int)(A:ab),dp a.ai A=true->(∀S∈z,dp a.ai S=true)->(y≠[]\/n≠F)->(∀B,n=G B->jg a.ai B)->I1 a A y z n|[],D,E,H,_,_,T,U=>by(obtain⟨g,rfl⟩:∃V,E=G V:=by cases E with|none=>simp at T|some Z=>grind);have d:=U g u;(have b:f3 a H [] D (G g)=g:=by rw[f3];rfl);(have c:hc a H [] D (G g)=(g,true):=by rw[hc];rfl);exact⟨by rw[b,c];simp[d.1],λ_=>by rw[b,c],λ_=>a3⟩|d::e,b,f,c,h,g,_,i=>by have i:=I2 x d (c++b.headD [])<|xj h<|PC g;by_cases g:dO a (c++b.headD []) d<0\/(f≠F/\f≠G (dO a (c++b.headD []) d));(. (have g:f3 a c (d::e) b f= -1:=by grind[sd]);(have g:hc a c (d::e) b f=(-1,false):=by grind[CQ]);exact⟨a3,a3,a3⟩);. (have g:f3 a c (d::e) b f=f3 a c e b.tail (G<|dO a (c++b.headD []) d):=by grind[sd]);(have i:hc a c (d::e) b f=hc a c e b.tail (G<|dO a (c++b.headD []) d):=by grind[CQ]);have f:=I3 x e b.tail (G<|dO a (c++b.headD []) d) c h (by grind[List.mem_of_mem_tail]) (bj a8) a3;exact⟨by rw[g,i];exact f.ok,by rw[g,i];exact f.val,by rw[g];exact f.jh⟩end
def p2(a:b3)(b:Nat):Bool:=bS 0 (dQ a b).cC (j a)&&bS 0 (dQ a b).d3 (j a)&&decide ((dQ a b).cons.length<=3)&&!(decide (0<(dQ a b).cons.length)&&((dQ a b).cC !=0||(dQ a b).d3 !=0))&&((dQ a b).cons.all λc=>decide (j c<=3)&&dp a c)&&!((aQ b).any λc=>(dQ a b).cons.length==0&&f8 a (dQ a b).cC (dQ a b).d3 c)
def og(a:b3):Bool:=decide (j a<=4)&&(aQ<|j a).all (p2 a)
theorem PI(a:b3)(b:Nat):p2 a b=kj a b:=by
 unfold p2 kj;by_cases c:0<(dQ a b).cons.length;.rw[bB c];(have c:((dQ a b).cons.length==0)=false:=a3);by_cases c:(dQ a b).cC=0;(.grind[dQ,bS]);grind
 grind
def PJ(a:b3):og a=nB a:=by grind[og,nB,p2,kj,PI]
def se(b:b3)(a:dK):Bool:=decide (j a.aC<=3)&&dp b a.aC&&bS 0 a.bu (j b)&&kk a.aC a.aG
def lM(a:aH):Bool:=decide (j a.ah<=4)&&(og a.ai&&decide (1<=j a.ah)&&(dh a 0).aC.length==0&&(dh a 0).bu==0&&a.ah.all (se a.ai))
theorem I4(a:aH):lM a=dU a:=by
 unfold lM dU p0;rw[PJ];by_cases b:j a.ah<=4;.grind[se,tr,kk,List.all_eq_true,bS]
 .simp[b]
mutual def lh:cd->Int->Option Int|.mk a _,b=>mR a b def mR:bC->Int->Option Int|[],a=>G a|b::c,a=>if 600<a+1 then F else match xl b (a+1)with|F=>F|G a=>mR c a def xl:b7->Int->Option Int|.mk _ _ _ _ a,b=>nD a b def nD:dt->Int->Option Int|[],a=>G a|a::b,c=>match lh a c with|F=>F|G a=>nD b a end
mutual theorem xm:∀(c:cd)(d:Int),lh c d=(h4 c<|600 - d).map (600 - ·)|.mk o v,p=>by rw[lh,h4];exact I5 o p theorem I5:∀(e:bC)(f:Int),mR e f=(lg e<|600 - f).map (600 - ·)|[],w=>by grind[mR,lg]|g::r,a=>by rw[mR,lg,PK g (a+1)];by_cases h:600<a+1;(.grind);.rw[be h,be m,show 600 -(a+1)=600 - a - 1 by omega];cases sb g (600 - a - 1)with|none=>rfl|some b=>simp only[zq];rw[I5 r (600 - b),show 600 -(600 - b)=b by omega]theorem PK:∀(h:b7)(i:Int),xl h i=(sb h<|600 - i).map (600 - ·)|.mk _ _ _ _ s,t=>by rw[xl,sb];exact I6 s t theorem I6:∀(j:dt)(k:Int),nD j k=(lL j<|600 - k).map (600 - ·)|[],y=>by grind[nD,lL]|l::u,n=>by rw[nD,lL,xm l n];cases h4 l (600 - n)with|none=>rfl|some b=>simp only[zq];rw[I6 u (600 - b),show 600 -(600 - b)=b by omega]end
def q6(b:aH)(a:dK):Bool:=(lh a.aE 0).isSome&&km b a.aC a.aE==a.bu
def vg(a:aH):Bool:=lM a&&a.ah.all (q6 a)
def zt(a:aH):vg a=hl a:=by
 unfold vg hl;rw[I4];cases b:dU a;.rfl
 .simp only[Bool.true_and];rw[xg];simp only[hC];(have:∀b∈a.ah,q6 a b=oc a b:=λb c=>by(have c:dp a.ai b.aC=true:=by grind[dU,p0,List.all_eq_true,tr]);grind[q6,oc,xm,I2]);grind
structure br where
 am:ab
 ae:ab
 cz:ab
 cJ:ab
 d8:ab
 bK:ab
def br.grow(a:br)(b c d:Int):br:=⟨a.am++[b],a.ae++[c],a.cz++[d],a.cJ++[-1],a.d8++[-1],a.bK++[-1]⟩
def br.iM(a:br)(b:Nat):br:=⟨a.am.take b,a.ae.take b,a.cz.take b,a.cJ.take b,a.d8.take b,a.bK.take b⟩
def gi(c d b:ab):Nat->Int->Bool|0,_=>false|e+1,a=>if aP d (bw a) 0<1/\dN c a=false then(if aP b (bw a) 0<0 then false else gi c d b e (aP b (bw a) 0))else true
def d9(a:ab)(b:Int):Option ab:=if aP a (bw b) 0<1 then F else G (a.set (bw b)<|aP a (bw b) 0 - 1)
def hd(a:ab)(b:Int):ab->ab|[]=>a|c::d=>hd (if c≠0 then a.set (bw b) (aP a (bw b) 0+1)else a) (b+1) d
def iN(a:Int):Bool:=a==6||a==9||a==10||a==11
def fI(a:aH)(b c:Int)(d:Nat):Bool:=b==9&&dN (dh a<|bw c).aG d
def i9(c:aH)(d:ab)(a e:Int)(f:ab)(b:Nat):Bool:=iN a&&aP d (aP f b 0).toNat 0 !=0&&!fI c a e b
def fh(c:aH)(d:ab)(e f:Int)(a:ab)(g:ab):Nat->Nat->Option ab|0,_=>G g|h+1,b=>if i9 c d e f a b then(match d9 g (aP a b 0)with|F=>F|G i=>fh c d e f a i h (b+1))else fh c d e f a g h (b+1)
def nE(d:aH)(e a f:ab)(g h:Int)(b:ab):Bool:=(aQ<|j b).all λc=>!(fI d g h c&&!gi e a f (j a) (aP b c 0))
def hD(e:aH)(h:ab)(a:br)(f g c:Int)(b:ab):Option br:=match fh e a.am f g b a.ae (j b) 0 with|F=>F|G d=>if nE e h d a.cz f g b=false then F else if 0<c then(if aP a.bK (c - 1).toNat 0≠j b then F else G {a with ae:=d,bK:=a.bK.set (c - 1).toNat (-1)})else G {a with ae:=d}
def hO(c:aH)(a:br)(d b:Int):Option br:=if aP a.cJ (bw b) 0<0\/(d=17/\0<=aP a.bK (bw b) 0)then F else match d9 a.ae b with|F=>F|G e=>G {a with ae:=hd e (aP a.d8 (bw b) 0) (bh c.ai<|aP a.cJ (bw b) 0),bK:=if d=17 then a.bK.set (bw b) (j<|bh c.ai<|aP a.cJ (bw b) 0)else a.bK}
def gj(a:br)(b:Nat):Bool:=(aQ<|j a.am - b).all λc=>aP a.ae (b+c) 0==0&&decide (aP a.bK (b+c) 0<0)
def fR(d:aH)(a:br)(e:Int)(b:ab)(c:Int):br:=if e=8 then(bh d.ai c).foldl (λd e=>d.grow e 0<|aP b 0 0) {a with cJ:=a.cJ.set (aP b 0 0).toNat c,d8:=a.d8.set (aP b 0 0).toNat (j a.am)}else a
mutual def fx(a:aH)(d:ab)(e:br)(b:Nat):cd->Option br|.mk f c=>match eu a d e f with|F=>F|G a=>if aP a.am (bw c) 0≠0 then(match d9 a.ae c with|F=>F|G c=>if gj {a with ae:=c} b then G (br.iM {a with ae:=c} b)else F)else(if gj a b then G (a.iM b)else F)def eu(a:aH)(b:ab)(c:br):bC->Option br|[]=>G c|d::e=>match fU a b c d with|F=>F|G c=>eu a b c e def fU(d:aH)(e:ab)(a:br):b7->Option br|.mk b f g c h=>(if b=14 then(if gi e a.ae a.cz (j a.ae) (aP c 0 0)then G {a with ae:=a.ae.set (aP c 0 0).toNat (aP a.ae (aP c 0 0).toNat 0+1)}else F)else if b=15 then(d9 a.ae<|aP c 0 0).map λi=>{a with ae:=i}else if b=16\/b=17 then hO d a b (aP c 0 0)else if b=7\/b=8 then(if b=8/\gi e a.ae a.cz (j a.ae) (aP c 0 0)=false then F else match fV d e a b c h (if b=8 then bx d.ai f else []) F with|F=>F|G F=>F|G (G (i,k))=>G {a with ae:=i,bK:=k})else hD d e a b f g c).map λe=>if gr b then e.grow (cU d a.am<|.mk b f g c h) (if cU d a.am (.mk b f g c h)≠0 then 1 else 0) (-1)else e def fV(a:aH)(d:ab)(b:br)(e:Int)(f:ab):dt->ab->Option (ab×ab)->Option (Option<|ab×ab)|[],_,c=>G c|c::i,g,h=>match fx a d (fR a b e f<|g.headD 0) (j b.am) c with|F=>F|G c=>match h with|F=>fV a d b e f i g.tail (G (c.ae,c.bK))|G h=>if h.1=c.ae/\h.2=c.bK then fV a d b e f i g.tail (G h)else F end
def jj(a:dK):br:=(aQ<|j a.aC).foldl (λc b=>c.grow (aP a.aC b 0) (if aP a.aC b 0≠0/\dN a.aG b=false then 1 else 0)<|-1) ⟨[],[],[],[],[],[]⟩
def kO(b:aH)(a:dK):Bool:=match fx b a.aG (jj a) (j a.aC) a.aE with|F=>false|G a=>gj a 0
def iO(a:aH):Bool:=hl a&&a.ah.all (kO a)
structure cp where
 eG:Int
 aD:Int
 d5:ab
structure c9 where
 b4:ab
 ae:ab
 bn:ab
def c9.bind(a:c9)(b c:Int):c9:=⟨a.b4++[b],a.ae++[c],a.bn++[-1]⟩
def cp.has(a:cp)(b:Int):Bool:=decide (a.aD<=b)&&decide (b<a.aD+j a.d5)
def hn(b c:ab)(d:List cp):Nat->Int->Bool|0,_=>false|e+1,a=>if 0<aP c (bw a) 0\/dN b a=true then true else match d.find? (·.has a)with|F=>false|G a=>hn b c d e a.eG
def mS(e:aH)(i:ab)(k:List cp)(a:c9)(f g d:Int)(b:ab):Option c9:=match fh e a.b4 f g b a.ae (j b) 0 with|F=>F|G c=>if(aQ<|j b).all (λh=>!(fI e f g h&&!hn i c k (j c) (aP b h 0)))=false then F else if d≠0 then(if aP a.bn (d - 1).toNat 0≠j b then F else G {a with ae:=c,bn:=a.bn.set (d - 1).toNat (-1)})else G {a with ae:=c}
def tu(c:List cp)(a:c9)(d b:Int):Option c9:=match c.reverse.find? (λc=>c.eG==b)with|F=>F|G c=>match d9 a.ae b with|F=>F|G e=>if d=17/\0<=aP a.bn (bw b) 0 then F else G {a with ae:=hd e c.aD c.d5,bn:=if d=17 then a.bn.set (bw b) (j c.d5)else a.bn}
def j5(a:c9)(b:Nat):Bool:=(aQ<|j a.b4 - b).all λc=>aP a.ae (b+c) 0==0&&decide (aP a.bn (b+c) 0<0)
mutual def nF(a:aH)(d:ab)(e:List cp)(f:c9)(b:Nat):cd->Option c9|.mk g c=>match ia a d e f g with|F=>F|G a=>if a.b4.getD (bw c) 0≠0 then(match d9 a.ae c with|F=>F|G c=>if j5 {a with ae:=c} b then G {a with ae:=c}else F)else(if j5 a b then G a else F)def ia(a:aH)(b:ab)(c:List cp)(d:c9):bC->Option c9|[]=>G d|e::f=>match jk a b c d e with|F=>F|G d=>ia a b c d f def jk(d:aH)(f:ab)(e:List cp)(a:c9):b7->Option c9|.mk b g h c i=>if eE b then(if b=14 then(if hn f a.ae e (j a.ae) (aP c 0 0)then G {a with ae:=a.ae.set (aP c 0 0).toNat (aP a.ae (aP c 0 0).toNat 0+1)}else F)else if b=15 then(d9 a.ae<|aP c 0 0).map λk=>{a with ae:=k}else tu e a b (aP c 0 0))else(if b=7\/b=8 then(if b=8/\hn f a.ae e (j a.ae) (aP c 0 0)=false then F else match he d f e a b c i (if b=8 then(bx d.ai g).map (bh d.ai)else []) F with|F=>F|G F=>F|G (G (k,l))=>G {a with ae:=k,bn:=l})else if iN b then mS d f e a b g h c else G a).map λe=>e.bind (fQ d a.b4<|.mk b g h c i).1<|min (fQ d a.b4<|.mk b g h c i).1 1 def he(e:aH)(f:ab)(b:List cp)(a:c9)(g:Int)(h:ab):dt->List ab->Option (ab×ab)->Option (Option<|ab×ab)|[],_,c=>G c|d::k,c,i=>match nF e f (if g=8 then b++[⟨aP h 0 0,j a.b4,c.headD []⟩]else b) ((c.headD []).foldl (λl m=>l.bind m 0) a) (j a.b4) d with|F=>F|G d=>match i with|F=>he e f b a g h k c.tail (G (d.ae.take (j a.b4),d.bn.take (j a.b4)))|G i=>if i.1=d.ae.take (j a.b4)/\i.2=d.bn.take (j a.b4)then he e f b a g h k c.tail (G i)else F end
structure fy(n:aH)(l:br)(b:c9)(bO:List cp):Prop where
 cE:l.am=b.b4
 jF:l.ae=b.ae
 oh:l.bK=b.bn
 ml:j l.ae=j l.am
 lt:j l.bK=j l.am
 oi:j l.cz=j l.am
 mm:j l.cJ=j l.am
 lf:j l.d8=j l.am
 cz:∀v:Nat,v<j l.am->l.cz.getD v 0=match bO.find? (·.has v)with|F=> -1|G a=>a.eG
 cJ:∀v:Nat,v<j l.am->match bO.reverse.find? (λa=>a.eG==(v:Int))with|F=>aP l.cJ v 0<0|G a=>0<=aP l.cJ v 0/\aP l.d8 v 0=a.aD/\bh n.ai (aP l.cJ v 0)=a.d5
 arm:∀a∈bO,0<=a.eG/\a.eG<a.aD/\a.aD+j a.d5<=j l.am
def cp.tv{a:cp}{v:Int}:a.has v=true↔a.aD<=v/\v<a.aD+j a.d5:=by simp[cp.has]
variable{W:br}
theorem fy.alive{l:c9}{f:List cp}(g:fy M W l f)(b c:ab):∀(h:Nat)(d:Int),0<=d->d<j W.am->gi b c W.cz h d=hn b c f h d|0,_,_,_=>rfl|n+1,a,r,s=>by rw[gi,hn];by_cases o:aP c (bw a) 0<1/\dN b a=false;(.rw[bB o,be (show¬(0<aP c (bw a) 0\/dN b a=true)by grind)];have e:=g.cz (bw a) m;rw[show((bw a:Nat):Int)=a by omega]at e;cases i:f.find? (·.has a)with|none=>grind|some k=>rw[i]at e;simp only[]at e;have p:=g.arm k<|CD i;rw[e,be m];exact fy.alive g b c n k.eG p.1 m);grind
def fy.set{d:c9}{e:List cp}(a:fy M W d e)(b c:ab)(f:j b=j W.ae)(g:j c=j W.bK):fy M {W with ae:=b,bK:=c} {d with ae:=b,bn:=c} e:=⟨a.cE,u,u,f.trans a.ml,g.trans a.lt,a.oi,a.mm,a.lf,a.cz,a.cJ,a.arm⟩
def CR:(L++[N]).getD e 0=if e<j L then L.getD e 0 else if e=j L then N else 0:=a3
theorem fy.grow{b:c9}{c:List cp}(a:fy M W b c)(d e:Int):fy M (W.grow d e<|-1) (b.bind d e) c:=by
 refine⟨by simp[br.grow,c9.bind,a.cE],by simp[br.grow,c9.bind,a.jF],by simp[br.grow,c9.bind,a.oh],by simp[br.grow,a.ml],by simp[br.grow,a.lt],by simp[br.grow,a.oi],by simp[br.grow,a.mm],by simp[br.grow,a.lf],λb d=>?_,λb d=>?_,λe f=>?_⟩;. (have d:b<j W.am+1:=by grind[br.grow]);simp only[br.grow];rw[CR,a.oi];by_cases d:b<j W.am;(.rw[bB d];exact a.cz b d);.rw[be d,bB m];(have:c.find? (·.has b)=F:=by rw[xa];intro d g h;have i:=a.arm d g;have d:=cp.tv.1 h;omega);rw[this]
 . (have d:b<j W.am+1:=by grind[br.grow]);simp only[br.grow];rw[CR,CR,a.mm,a.lf];by_cases d:b<j W.am;(.rw[bB d,bB d];exact a.cJ b d);.rw[be d,bB m];(have:c.reverse.find? (λc=>c.eG==(b:Int))=F:=by rw[xa];intro b c d;have d:=a.arm b (by simpa using c);grind);rw[this];simp
 .have:=a.arm e f;simp only[br.grow,eV,gI,jV];omega
theorem li(a:d9 L N=G X):j X=j L:=by grind[d9]
theorem CS:∀(b a:ab)(c:Int),j (hd a c b)=j a|[],a,b=>rfl|b::a,c,d=>by rw[hd,CS a];split<;>simp
theorem zu(c:aH)(d:ab)(e f:Int)(b:ab):∀(o p:Nat)(h i:ab),fh c d e f b h o p=G i->j i=j h|0,r,s,t,u=>by grind[fh]|k+1,g,l,m,a=>by rw[fh]at a;split at a;(.cases n:d9 l (aP b g 0)with|none=>grind|some q=>rw[n]at a;exact(zu c d e f b k (g+1) q m a).trans<|li n);.exact zu c d e f b k (g+1) l m a
theorem r2(c:Int):∀(a:ab)(b:br),a.foldl (λd e=>d.grow e 0 c) b=⟨b.am++a,b.ae++a.map (λ_=>0),b.cz++a.map (λ_=>c),b.cJ++a.map (λ_=> -1),b.d8++a.map (λ_=> -1),b.bK++a.map (λ_=> -1)⟩|[],a=>a8|b::a,d=>by rw[tw,r2 c a];simp[br.grow]
theorem I7:∀(a:ab)(b:c9),a.foldl (λc d=>c.bind d 0) b=⟨b.b4++a,b.ae++a.map (λ_=>0),b.bn++a.map (λ_=> -1)⟩|[],a=>a8|b::a,c=>by rw[tw,I7 a];simp[c9.bind]
def CT(a:e<j L):(L++X).getD e 0=L.getD e 0:=a3
def I8(a:j L<=e)(a:e<j L+j X):(L++X.map λ_=>N).getD e 0=N:=a3
def zv(a:e<j L):(L.set e N).getD J 0=if e=J then N else L.getD J 0:=a3
def fy.gk{n:aH}{g:c9}{f:List cp}(a:fy n W g f)(d c:Int)(u:0<=d)(v:d<j W.am)(w:0<=c):fy n ((bh n.ai c).foldl (λl o=>l.grow o 0 d) {W with cJ:=W.cJ.set (bw d) c,d8:=W.d8.set (bw d) (j W.am)}) ((bh n.ai c).foldl (λp q=>p.bind q 0) g) (f++[⟨d,j g.b4,bh n.ai c⟩]):=by
 rw[r2,I7,<-a.cE];generalize x:bh n.ai c=h;refine⟨a8,by simp[a.jF],by simp[a.oh],by simp[a.ml],by simp[a.lt],by simp[a.oi],by simp[a.mm],by simp[a.lf],λb i=>?_,λb i=>?_,λr s=>?_⟩;.simp only[eV]at i;simp only[List.find?_append];by_cases k:b<j W.am;(.rw[CT (by rw[a.oi];exact k),a.cz b k];cases y:f.find? (·.has b)with|some t=>simp|none=>(have:(⟨d,j W.am,h⟩:cp).has b=false:=by cases t:(⟨d,j W.am,h⟩:cp).has b;(.rfl);.have:=(cp.tv.1 t).1;grind);simp[this]);.rw[I8 (by rw[a.oi];omega) (by rw[a.oi];omega)];(have c:f.find? (·.has b)=F:=by rw[xa];intro g k l;have n:=a.arm g k;have g:=cp.tv.1 l;omega);have:(⟨d,j W.am,h⟩:cp).has b=true:=cp.tv.2 ⟨aB,aB⟩;simp[c,this]
 .simp only[eV]at i;simp only[List.reverse_append,List.reverse_cons,List.reverse_nil,j1,j0,List.find?_cons];by_cases c:b<j W.am;(.rw[CT (by simp;rw[a.mm];exact c),CT (by simp;rw[a.lf];exact c),zv (by rw[a.mm];omega),zv (by rw[a.lf];omega)];by_cases cT:d=(b:Int);(.grind);. (have g:¬bw d=b:=m);(have:(d==(b:Int))=false:=xn);simp only[this,be g];exact a.cJ b c);. (have c:(d==(b:Int))=false:=aB);(have d:f.reverse.find? (λf=>f.eG==(b:Int))=F:=by rw[xa];intro b f g;have g:=a.arm b (by simpa using f);grind);rw[I8 (by simp;rw[a.mm];omega) (by simp;rw[a.mm];omega)];simp[c,d]
 .simp only[eV];rcases cI.1 s with b|b;(.have:=a.arm r b;omega);grind
def OR(a:aH)(b:List cp):Option br->Option c9->Prop|F,F=>True|G c,G d=>fy a c d b|_,_=>False
theorem OR.map{a:List cp}{b:Option br}{c:Option c9}(d:OR M a b c)(g:br->br)(h:c9->c9)(i:∀e f,b=G e->c=G f->fy M e f a->fy M (g e) (h f) a):OR M a (b.map g) (c.map h):=by
 cases b<;>cases c;.trivial
 .exact d.elim
 .exact d.elim
 .exact i _ _ u u d
def vh{a:ab}(b:eF L X a=true)(a:Nat)(c:a<j X):0<=aP X a 0/\aP X a 0<j L:=by
 simp only[eF,fH,hC,gB]at b;have:=fr (b.2 a c).1;omega
def PL(d:0<=f2 M L N Y X):∀e,e<j X->0<=aP X e 0/\aP X e 0<j L:=by
 have g:¬(0:Int)<= -1:=m;intro a b;revert d;unfold f2 iL kl;repeat' split
 all_goals first|(intro d;exact absurd d g)|(rename_i c;intro _;exact absurd b a3)|(rename_i c;intro _;exact vh c a b)|(rename_i c;intro _;exact vh c.2 a b)|skip
 .rename_i f;intro _;(have:eF L X ((dh M<|bw Y).aC.take<|(dh M<|bw Y).aC.length - 1)=true:=a3);exact vh this a b
 .rename_i f h;intro _;(obtain⟨o,p,rfl⟩:∃i k,X=[i,k]:=by match X,f.1 with|[l,n],_=>exact⟨l,n,u⟩);match a with|0=>have:=fr f.2.1;omega|1=>exact vh h 0 a8|f+2=>simp at b;omega
 all_goals rename_i f h;intro _;have i:=f.1;(obtain rfl:a=0:=m);have:=fr f.2.1;omega
def vi{af an b1:Int}{ak:ab}{a7:dt}(a:0<=cU M L (.mk af an b1 ak a7)):∀b,b<j ak->0<=aP ak b 0/\aP ak b 0<j L:=by
 have b:¬(0:Int)<= -1:=m;intro b c;rw[j4]at a;split at a;.omega
 .split at a;(.split at a;(.rename_i d;exact vh d b c);omega);.split at a;(.split at a;(.rename_i d;exact vh d b c);omega);.exact PL a b c
def CU{af an b1:Int}{ak:ab}{a7:dt}(a:0<=cU M L (.mk af an b1 ak a7)):b1=0\/(1<=b1/\b1<=j L):=by
 rw[j4]at a;split at a;.omega
 .rename_i a;(have b:ip L (.mk af an b1 ak a7)=true:=a3);simp only[ip,fH]at b;have a:kN L af b1=true:=b.1.2;unfold kN at a;by_cases b:b1=0;(.grind);.rw[be b]at a;simp only[fH]at a;exact bj<|fr a.1.2
theorem fy.hD{l:c9}{h:List cp}(d:fy M W l h)(e:ab)(f g b:Int)(a:ab)(q:b=0\/(1<=b/\b<=j W.am))(i:∀m,m<j a->0<=aP a m 0/\aP a m 0<j W.am):OR M h (hD M e W f g b a) (mS M e h l f g b a):=by
 obtain⟨r,s,t⟩:=l;obtain rfl:W.am=r:=d.cE;obtain rfl:W.ae=s:=d.jF;obtain rfl:W.bK=t:=d.oh;unfold Go.Proofs.YtfekcilkpafpjaaGreat.hD mS;simp only[];cases v:fh M W.am f g a W.ae (j a) 0 with|none=>trivial|some c=>have o:=zu _ _ _ _ _ _ _ _ _ v;(have w:nE M e c W.cz f g a=(aQ<|j a).all (λp=>!(fI M f g p&&!hn e c h (j c) (aP a p 0))):=by unfold nE;rw[xg];simp only[hC,gB];constructor;(.intro y k n;have:=y k n;rwa [d.alive e c _ _ (i k n).1 (i k n).2]at this);.intro y k n;have:=y k n;rwa [d.alive e c _ _ (i k n).1 (i k n).2]);simp only[];rw[w];cases(aQ<|j a).all (λn=>!(fI M f g n&&!hn e c h (j c) (aP a n 0)))with|false=>trivial|true=>simp only[Bool.true_eq_false,nC];rcases q with x|x;(.rw[be (show¬0<b by omega),be (show¬b≠0 by omega)];exact d.set c W.bK o u);.rw[bB (show 0<b by omega),bB (show b≠0 by omega)];by_cases k:aP W.bK (b - 1).toNat 0≠j a;(.rw[bB k,bB k];trivial);.rw[be k,be k];exact d.set c _ o a8
theorem fy.hO{f:c9}{d:List cp}(c:fy M W f d)(e a:Int)(p:0<=a)(q:a<j W.am):OR M d (hO M W e a) (tu d f e a):=by
 obtain⟨i,k,l⟩:=f;obtain rfl:W.am=i:=c.cE;obtain rfl:W.ae=k:=c.jF;obtain rfl:W.bK=l:=c.oh;unfold Go.Proofs.YtfekcilkpafpjaaGreat.hO tu;have b:=c.cJ (bw a) m;rw[show((bw a:Nat):Int)=a by omega]at b;cases h:d.reverse.find? (λn=>n.eG==a)with|none=>rw[h]at b;simp only[]at b;rw[bB (aM b)];trivial|some r=>rw[h]at b;simp only[]at b;simp only[];cases o:d9 W.ae a with|none=>split<;>trivial|some s=>simp only[];by_cases g:e=17/\0<=aP W.bK (bw a) 0;(.rw[bB (bj g),bB g];trivial);.rw[be (show¬(aP W.cJ (bw a) 0<0\/(e=17/\0<=aP W.bK (bw a) 0))by omega),be g];rw[b.2.1,b.2.2];exact c.set _ _ (by rw[CS,li o]) a3
def CV(a:Nat):Option br->Option c9->Prop|F,F=>True|G b,G c=>b.ae=c.ae.take a/\b.bK=c.bn.take a|_,_=>False
theorem zw{b:c9}{c:List cp}(a:fy M W b c)(c:Nat):gj W c=j5 b c:=by
 unfold gj j5;rw[a.cE,a.jF,a.oh]
def fy.fin{b:c9}{i:List cp}(d:fy M W b i)(a:Nat)(c:Int):CV a (if aP W.am (bw c) 0≠0 then(match d9 W.ae c with|F=>F|G f=>if gj {W with ae:=f} a then G (br.iM {W with ae:=f} a)else F)else(if gj W a then G (W.iM a)else F)) (if aP b.b4 (bw c) 0≠0 then(match d9 b.ae c with|F=>F|G g=>if j5 {b with ae:=g} a then G {b with ae:=g}else F)else(if j5 b a then G b else F)):=by
 obtain⟨j,k,l⟩:=b;obtain rfl:W.am=j:=d.cE;obtain rfl:W.ae=k:=d.jF;obtain rfl:W.bK=l:=d.oh;simp only[];by_cases e:aP W.am (bw c) 0≠0;.rw[bB e,bB e];cases m:d9 W.ae c with|none=>trivial|some h=>simp only[];have n:=d.set h W.bK (li m) u;rw[zw n a];simp only[];cases j5 {b4:=W.am,ae:=h,bn:=W.bK} a with|false=>trivial|true=>exact⟨u,u⟩
 .rw[be e,be e,zw d a];cases j5 {b4:=W.am,ae:=W.ae,bn:=W.bK} a with|false=>trivial|true=>exact⟨u,u⟩
def zx(a:Y∈bx O N):0<=Y:=by
 unfold bx at a;split at a;.obtain⟨c,_,rfl⟩:=iJ.1 a;(have:0<=dg O (N - 1).toNat:=by unfold dg;generalize O.take (N - 1).toNat=b;induction b with|nil=>simp|cons d e f=>simp;omega);omega
 .cases a
def q7{b:cd}{c:dt}{a:List ab}{d:Option Int}(e:0<=f3 M L (b::c) a d):0<=dO M (L++a.headD []) b/\0<=f3 M L c a.tail (G<|dO M (L++a.headD []) b):=by grind[sd]
def vj{af an b1:Int}{ak:ab}{a7:dt}(a:0<=cU M L (.mk af an b1 ak a7))(c:eE af=true\/af=7\/af=8):j ak=1:=by
 have d:¬(0:Int)<= -1:=m;have d:∀{b:ab},eF L ak b=true->j ak=j b:=by intro b b;simp only[eF,fH,kf]at b;exact b.1
 rw[j4]at a;split at a;.omega
 .split at a;(.grind);.split at a;(.grind);.rename_i b b;(have b:eE af=true:=a3);have c:=fr b;unfold f2 at a;rw[be m,be m,be m,be m,be m,be m,bB m]at a;grind[iL,absurd]
def tx{b:Int}{a:dt}(c:0<=cU M L (.mk N Y b X a)):(N=7->j a=2/\0<=f3 M L a [[],[]] F)/\(N=8->0<j (bx M.ai Y)/\j a=j (bx M.ai Y)/\0<=f3 M L a ((bx M.ai Y).map<|bh M.ai) F):=by grind[j4,absurd]
def I9{a:Int}{b:dt}(c:0<=cU M L (.mk N Y a X b))(d:N≠6):a=0:=by
 rw[j4]at c;split at c;.omega
 .rename_i c;(have c:ip L (.mk N Y a X b)=true:=a3);simp only[ip,fH]at c;have b:kN L N a=true:=c.1.2;unfold kN at b;grind
theorem xo:∀(d:bC)(b c:ab),dI M b d=G c->j b<=j c|[],g,h,i=>by grind[dI]|k::e,l,f,a=>by rw[dI]at a;split at a;(.cases a);.have:=xo e _ f a;grind
theorem Ia(b:aH)(c:ab)(a d:Int)(e:ab)(f:iN a=false):∀(h i:Nat)(g:ab),fh b c a d e g h i=G g|0,g,h=>by rw[fh]|h+1,g,i=>by rw[fh,be (show¬i9 b c a d e g=true by simp[i9,f])];exact Ia b c a d e f h (g+1) i
theorem PM{b:br}{c:Int}(a:hD M L W N Y c X=G b):b.am=W.am:=by
 unfold hD at a;repeat' split at a
 all_goals first|(cases a;done)|(cases a;rfl)
theorem PN{a:br}(b:hO M W N Y=G a):a.am=W.am:=by grind[hO]
def PO{f:List cp}{c:Option br}{g:Option c9}(d a b:Int)(m:OR M f c g)(n:∀h,c=G h->h.am=W.am)(i:gr d=true)(o:b=a)(s:0<=a):OR M f (c.map λj=>if gr d then j.grow a (if a≠0 then 1 else 0) (-1)else j) (g.map λp=>p.bind b<|min b 1)/\∀k,(c.map λl=>if gr d then l.grow a (if a≠0 then 1 else 0) (-1)else l)=G k->k.am=if gr d then W.am++[a]else W.am:=by
 subst o;refine⟨m.map _ _ λt v _ _ q=>?_,λw e=>?_⟩;.simp only[i,mn];(have:(if b≠0 then(1:Int)else 0)=min b 1:=a3);rw[this];exact q.grow b _
 .cases c with|none=>cases e|some r=>simp only[zq,i,mn]at e⊢;cases e;rw[<-n r u];rfl
def OR.same{d:List cp}{b:Option br}{e:Option c9}(c a:Int)(f:OR M d b e)(f:∀f,b=G f->f.am=W.am)(f:gr c=false):OR M d (b.map λd=>if gr c then d.grow a (if a≠0 then 1 else 0) (-1)else d) e/\∀d,(b.map λb=>if gr c then b.grow a (if a≠0 then 1 else 0) (-1)else b)=G d->d.am=if gr c then W.am++[a]else W.am:=bq
structure ib(l:br):Prop where
 o:j l.ae=j l.am
 t:j l.bK=j l.am
theorem ib.grow(a:ib W)(b c d:Int):ib (W.grow b c d):=⟨by simp[br.grow,a.o],by simp[br.grow,a.t]⟩
def ib.gk{n:aH}(a:ib W)(b:Int)(d:ab)(c:Int):ib (fR n W b d c)/\j W.am<=(fR n W b d c).am.length:=by
 unfold fR;split;.rw[r2];exact⟨⟨by simp[a.o],by simp[a.t]⟩,a8⟩
 grind
theorem ib.hD{b:br}{e:Int}(c:ib W)(a:Go.Proofs.YtfekcilkpafpjaaGreat.hD M L W N Y e X=G b):ib b/\j W.am<=j b.am:=by
 unfold Go.Proofs.YtfekcilkpafpjaaGreat.hD at a;cases d:fh M W.am N Y X W.ae (j X) 0 with|none=>grind|some g=>rw[d]at a;have f:=zu _ _ _ _ _ _ _ _ _ d;simp only[]at a;(repeat' split at a);all_goals first|(cases a;done)|(cases a;exact⟨⟨by simp[f,c.o],by simp[c.t]⟩,cF _⟩)
theorem ib.hO{b:br}(c:ib W)(a:Go.Proofs.YtfekcilkpafpjaaGreat.hO M W N Y=G b):ib b/\j W.am<=j b.am:=by
 unfold Go.Proofs.YtfekcilkpafpjaaGreat.hO at a;split at a;.cases a
 .cases d:d9 W.ae Y with|none=>grind|some e=>rw[d]at a;cases a;refine⟨⟨?_,?_⟩,cF _⟩;(.show j (hd e _ _)=_;rw[CS,li d,c.o]);.show j (if N=17 then W.bK.set (bw Y) _ else W.bK)=_;split<;>simp[c.t]
def ib.fin{a:br}(b:ib W)(c:e<=j W.am)(d:(if aP W.am (bw N) 0≠0 then(match d9 W.ae N with|F=>F|G c=>if gj {W with ae:=c} e then G (br.iM {W with ae:=c} e)else F)else(if gj W e then G (W.iM e)else F))=G a):j a.ae=e/\j a.bK=e:=by
 have a:=b.o;have a:=b.t;split at d;.grind[d9,li,br.iM,List.length_take]
 .grind[br.iM,List.length_take]
mutual theorem PP{A:aH}{B:ab}:∀(U:cd)(k:br)(d:Nat)(l:br),ib k->d<=j k.am->fx A B k d U=G l->j l.ae=d/\j l.bK=d|.mk D aa,E,ae,af,V,W,m=>by rw[fx]at m;cases a:eu A B E D with|none=>grind|some c=>rw[a]at m;have b:=CW D E c V a;exact b.1.fin (fB W b.2) m theorem CW{C:aH}{H:ab}:∀(X:bC)(o p:br),ib o->eu C H o X=G p->ib p/\j o.am<=j p.am|[],ag,ah,ai,aj=>by grind[eu]|I::Y,J,Z,a0,r=>by rw[eu]at r;cases a:fU C H J I with|none=>grind|some b=>rw[a]at r;have c:=PQ I J b a0 a;have e:=CW Y b Z c.1 r;exact⟨e.1,fB c.2 e.2⟩theorem PQ{q:aH}{K:ab}:∀(a1:b7)(s t:br),ib s->fU q K s a1=G t->ib t/\j s.am<=j t.am|.mk u a2 ak L M,v,al,b,w=>by rw[fU]at w;obtain⟨c,a,e⟩:=vk.1 w;(have f:ib c/\j v.am<=j c.am:=by clear w e;split at a;(.split at a;(.cases a;exact⟨⟨by simp[b.o],b.t⟩,cF _⟩);.cases a);.split at a;(.obtain⟨i,g,h⟩:=vk.1 a;subst h;exact⟨⟨by simp[li g,b.o],b.t⟩,cF _⟩);.split at a;(.exact b.hO a);.split at a;(.split at a;(.cases a);.cases g:fV q K v u L M (if u=8 then bx q.ai a2 else []) F with|none=>grind|some x=>cases x with|none=>grind|some h=>have i:=zy M _ F v u L h b (λz y=>by cases y) g;obtain⟨N,O⟩:=h;rw[g]at a;cases a;exact⟨⟨i.1,i.2⟩,cF _⟩);.exact b.hD a);subst e;split;(.exact⟨f.1.grow _ _ _,by grind[br.grow,List.length_append]⟩);.exact f theorem zy{e:aH}{N:ab}:∀(a4:dt)(a5:ab)(O:Option (ab×ab))(c:br)(a6:Int)(a7:ab)(x:ab×ab),ib c->(∀y,O=G y->y.1.length=j c.am/\y.2.length=j c.am)->fV e N c a6 a7 a4 a5 O=G (G x)->x.1.length=j c.am/\x.2.length=j c.am|[],am,an,ao,ap,aq,ar,_,av,aw=>by grind[fV]|P::Q,f,a8,g,h,i,R,z,a9,a=>by rw[fV]at a;cases S:fx e N (fR e g h i<|f.headD 0) (j g.am) P with|none=>grind|some ad=>rw[S]at a;have T:=z.gk (n:=e) h i<|f.headD 0;have au:=PP P _ _ _ T.1 T.2 S;cases a8 with|none=>exact zy Q f.tail _ g h i R z (λax ax=>a3) a|some ax=>simp only[]at a;split at a;(.exact zy Q f.tail _ g h i R z a9 a);.cases a end
structure vl(n:aH)(am:ab)(af:Int)(aS:Int)(dS:dt)(cs:ab):Prop where
 Ib:af=7->∃aD t,(∀f∈aD,f=[])/\0<=f3 n am dS aD t
 Ic:af=8->j dS=j cs/\(∀c∈cs,0<=c)/\0<=aS/\aS<j am/\∃t,0<=f3 n am dS (cs.map<|bh n.ai) t
 Id:af=7\/af=8
mutual theorem Ie{q:aH}(aw:dU q=true)(B:ab):∀(U:cd)(N:br)(ae:c9)(ag:List cp)(V:Nat),fy q N ae ag->dp q.ai N.am=true->0<=dO q N.am U->CV V (fx q B N V U) (nF q B ag ae V U)|.mk J ay,W,X,O,az,aA,aB,aS=>by(have a:dI q W.am J≠F:=by grind[dO]);have g8:=zz aw B J W X O aA aB a;rw[fx,nF];cases cV:eu q B W J with|none=>(cases r3:ia q B O X J with|none=>trivial|some b=>exact xp)|some b=>cases r3:ia q B O X J with|none=>exact xp|some d=>rw[cV,r3]at g8;have e:fy q b d O:=g8.1;simp only[];exact e.fin az ay theorem zz{h:aH}(Y:dU h=true)(w:ab):∀(K:bC)(C:br)(ah:c9)(Z:List cp),fy h C ah Z->dp h.ai C.am=true->dI h C.am K≠F->OR h Z (eu h w C K) (ia h w Z ah K)/\∀ai,eu h w C K=G ai->dI h C.am K=G ai.am|[],aT,aU,aV,aC,_,_=>by rw[eu,ia,dI];exact⟨aC,λa a=>a3⟩|E::aD,P,a0,L,aE,Q,M=>by rw[dI]at M⊢;have e:¬cU h P.am E<0:=λf=>M<|bB f;rw[be e]at M⊢;have g8:=zA Y w E P a0 L aE Q m;rw[eu,ia];cases cV:fU h w P E with|none=>(cases r3:jk h w L a0 E with|none=>grind|some a=>exact xp)|some a=>cases r3:jk h w L a0 E with|none=>exact xp|some b=>rw[cV,r3]at g8;have g:fy h a b L:=g8.1;have d:=g8.2 a u;simp only[];rw[<-d]at M⊢;have i:=vf Y E P.am Q;(have k:dp h.ai a.am=true:=by rw[d];split;(.exact zp Q<|i.jh m);.exact Q);exact zz Y w aD a b L g k M theorem zA{d:aH}(aj:dU d=true)(s:ab):∀(H:b7)(x:br)(ak:c9)(a1:List cp),fy d x ak a1->dp d.ai x.am=true->0<=cU d x.am H->OR d a1 (fU d s x H) (jk d s a1 ak H)/\∀al,fU d s x H=G al->al.am=if gr H.af then x.am++[cU d x.am H]else x.am|.mk a l I n y,e,aF,aG,i,an,z=>by have b:=vf aj (.mk a l I n y) e.am an;have aq:gr a=!eE a:=b.df z;obtain⟨A,p,D,r,CX,R⟩:=h1 (b.val z) (vi z) (CU z) (vj z) (tx z) (I9 z);rw[fU,jk];have S:=i.cE;rw[<-S];rw[show(b7.mk a l I n y).af=a from u];generalize f:cU d e.am (.mk a l I n y)=t at*;generalize g:(fQ d e.am<|.mk a l I n y).1=T at*;clear f g b;have f:=i;obtain⟨a2,a4,a5⟩:=aF;obtain rfl:e.am=a2:=i.cE;obtain rfl:e.ae=a4:=i.jF;obtain rfl:e.bK=a5:=i.oh;by_cases b:eE a=true;(. (have v:gr a=false:=a3);have a9:=fr b;have aa:=r<|aM b;have g:=p 0 m;rw[bB b];refine OR.same a t ?_ ?_ v;(.by_cases k:a=14;(.rw[bB k,bB k];simp only[];rw[i.alive s e.ae _ _ g.1 g.2];split;(.exact i.set _ e.bK a8 u);.trivial);.rw[be k,be k];by_cases o:a=15;(.rw[bB o,bB o];simp only[];cases a6:d9 e.ae (aP n 0 0)with|none=>trivial|some a7=>exact i.set a7 e.bK (li a6) u);.rw[be o,be o,bB m];exact f.hO a _ g.1 g.2);.grind[PN,d9]);. (have b:eE a=false:=a3);(have ar:¬(14<=a/\a<=17):=λau=>HW);(have a6:gr a=true:=a3);rw[be (show¬eE a=true by simp[b])];rw[be (show¬a=14 by omega),be (show¬a=15 by omega),be (show¬(a=16\/a=17)by omega)];refine PO a t T ?_ ?_ a6 (A b) z;(.by_cases q8:a=7\/a=8;(.rw[bB q8,bB q8];have av:=r<|bj q8;have mj:=p 0 m;simp only[];rw[i.alive s e.ae _ _ mj.1 mj.2];split;(.trivial);. (have a7:vl d e.am a (aP n 0 0) y (if a=8 then bx d.ai l else []):=PR);have g:=CY aj s y (if a=8 then bx d.ai l else []) F e ⟨e.am,e.ae,e.bK⟩ aG a n f an a7;(have a9:(if a=8 then(if a=8 then bx d.ai l else []).map (bh d.ai)else [])=if a=8 then(bx d.ai l).map (bh d.ai)else []:=a3);rw[a9]at g;rw[<-g];cases aa:fV d s e a n y (if a=8 then bx d.ai l else []) F with|none=>trivial|some ad=>cases ad with|none=>trivial|some ao=>obtain⟨k,o⟩:=ao;have v:=zy y _ F e a n (k,o) ⟨i.ml,i.lt⟩ (λax ap=>by cases ap) aa;exact i.set k o (by rw[i.ml];exact v.1) (by rw[i.lt];exact v.2));.rw[be q8,be q8];by_cases b:iN a=true;(.rw[bB b];exact f.hD s a l I n D p);.rw[be b];(have b:iN a=false:=a3);have g:I=0:=R CZ;(have k:(a==9)=false:=CZ);unfold hD;rw[Ia d e.am a l n b];simp only[];(have:nE d s e.ae e.cz a l n=true:=by simp[nE,fI,k]);rw[this,g];simp only[Bool.true_eq_false,nC,Int.lt_irrefl];exact f);.grind[PM]theorem CY{b:aH}(R:dU b=true)(r:ab):∀(a2:dt)(a4:ab)(ao:Option (ab×ab))(S:br)(ap:c9)(aq:List cp)(T:Int)(a5:ab),fy b S ap aq->dp b.ai S.am=true->vl b S.am T (aP a5 0 0) a2 a4->fV b r S T a5 a2 a4 ao=he b r aq ap T a5 a2 (if T=8 then a4.map (bh b.ai)else []) ao|[],aW,aX,aZ,a',b0,b1,b2,_,_,_=>by rw[fV,he]|A::a6,k,aI,f,o,t,g,p,D,a7,a9=>by(have ax:CV (j f.am) (fx b r (fR b f g p<|k.headD 0) (j f.am) A) (nF b r (if g=8 then t++[⟨aP p 0 0,j o.b4,(if g=8 then k.map (bh b.ai)else []).headD []⟩]else t) (((if g=8 then k.map (bh b.ai)else []).headD []).foldl (λaJ aK=>aJ.bind aK 0) o) (j o.b4) A)/\vl b f.am g (aP p 0 0) a6 k.tail:=by rcases a9.Id with v|v;(.subst v;obtain⟨aa,aL,ar,au⟩:=a9.Ib u;have ad:=q7 au;(have av:aa.headD []=[]:=by cases aa with|nil=>rfl|cons aN _=>simp_all);rw[av,nG]at ad;refine⟨?_,⟨λ_=>⟨aa.tail,_,λaa au=>ar aa<|If au,ad.2⟩,λaa=>m,aM u⟩⟩;simp only[fR,be (show¬((7:Int)=8)by omega),List.headD_nil,List.foldl_nil];rw[<-D.cE];exact Ie R r A f o t _ D a7 ad.1);.subst v;obtain⟨v,ar,aa,ad,av,au⟩:=a9.Ic u;match k,v,ar,au with|[],v,_,_=>simp at v|v::ar,aN,av,aL=>have ar:=q7 aL;simp only[h0,D0,zn]at ar;refine⟨?_,⟨λau=>m,λ_=>⟨a3,a3,aa,ad,_,ar.2⟩,bj u⟩⟩;simp only[fR,mn,h0,D0];have ar:=D.gk (aP p 0 0) v aa ad<|av v a8;(have aa:((bh b.ai v).foldl (λ(aa:br)ad=>aa.grow ad 0<|aP p 0 0) {f with cJ:=f.cJ.set (aP p 0 0).toNat v,d8:=f.d8.set (aP p 0 0).toNat (j f.am)}).am=f.am++bh b.ai v:=by rw[r2]);have v:=Ie R r A _ _ _ (j f.am) ar (by grind[xj,zm,vd]) a3;rw[<-D.cE]at v⊢;exact v);rw[fV,he];obtain⟨v,aa⟩:=ax;cases ad:fx b r (fR b f g p<|k.headD 0) (j f.am) A with|none=>(rw[ad]at v;cases ar:nF b r (if g=8 then t++[⟨aP p 0 0,j o.b4,(if g=8 then k.map (bh b.ai)else []).headD []⟩]else t) (((if g=8 then k.map (bh b.ai)else []).headD []).foldl (λau av=>au.bind av 0) o) (j o.b4) A with|none=>rfl|some aL=>rw[ar]at v;exact v.elim)|some ar=>rw[ad]at v;cases au:nF b r (if g=8 then t++[⟨aP p 0 0,j o.b4,(if g=8 then k.map (bh b.ai)else []).headD []⟩]else t) (((if g=8 then k.map (bh b.ai)else []).headD []).foldl (λaL aN=>aL.bind aN 0) o) (j o.b4) A with|none=>rw[au]at v;exact v.elim|some av=>rw[au]at v;have aO:ar.ae=av.ae.take (j f.am):=v.1;have aQ:ar.bK=av.bn.take (j f.am):=v.2;(have aR:(if g=8 then k.map (bh b.ai)else []).tail=if g=8 then k.tail.map (bh b.ai)else []:=by split;(.simp);.rfl);simp only[];rw[aO,aQ,aR,<-D.cE];cases aI with|none=>exact CY R r a6 k.tail _ f o t g p D a7 aa|some aY=>simp only[];split;(.exact CY R r a6 k.tail _ f o t g p D a7 aa);.rfl end
def lN(a:dK):c9:=(aQ<|j a.aC).foldl (λc b=>c.bind (aP a.aC b 0)<|if aP a.aC b 0≠0/\dN a.aG b=false then 1 else 0) ⟨[],[],[]⟩
def kP(b:aH)(a:dK):Bool:=(nF b a.aG [] (lN a) 0 a.aE).isSome
def xq(a:aH):Bool:=vg a&&a.ah.all (kP a)
theorem Ig(e:aH)(a b:Nat->Int):∀(d:aw)(c:br)(f:c9),fy e c f []->ib c->fy e (d.foldl (λh g=>h.grow (a g) (b g)<|-1) c) (d.foldl (λh g=>h.bind (a g)<|b g) f) []/\ib (d.foldl (λg f=>g.grow (a f) (b f)<|-1) c)/\(d.foldl (λg f=>g.grow (a f) (b f)<|-1) c).am=c.am++d.map a|[],f,g,c,d=>⟨c,d,a8⟩|c::d,f,g,h,i=>by have:=Ig e a b d (f.grow (a c) (b c)<|-1) (g.bind (a c)<|b c) (h.grow _ _)<|i.grow _ _ _;refine⟨this.1,this.2.1,?_⟩;rw[tw,this.2.2];simp[br.grow]
def PS(a:ab):(aQ<|j a).map (λb=>a.getD b 0)=a:=by
 refine xh a8 λa a a=>?_;grind
def vm(b:aH)(a:dK):fy b (jj a) (lN a) []/\ib (jj a)/\(jj a).am=a.aC:=by
 have:=Ig b (λb=>aP a.aC b 0) (λb=>if aP a.aC b 0≠0/\dN a.aG b=false then 1 else 0) (aQ<|j a.aC) ⟨[],[],[],[],[],[]⟩ ⟨[],[],[]⟩ ⟨u,u,u,u,u,u,u,u,a3,a3,a3⟩ ⟨u,u⟩;refine⟨this.1,this.2.1,?_⟩;have a:=this.2.2;rw[PS]at a;exact a.trans<|j1 _
theorem Ih(a:ib W)(b:e<=j W.am):(gj W e&&gj (W.iM e) 0)=gj W 0:=by
 have b:=a.o;have b:=a.t;rw[xg];simp only[gj,br.iM,fH,hC,gB,gF,Nat.sub_zero,D1,kf,xi];have a:∀(b:ab)(a:Nat),a<e->(b.take e).getD a 0=b.getD a 0:=a3;constructor;.rintro⟨b,c⟩a c;rcases la a e with c|c;(.grind);.have:=b (a - e) m;grind
 .grind
theorem PT(k:dU M=true)(a:dK)(C:dp M.ai a.aC=true)(l:0<=dO M a.aC a.aE):kP M a=kO M a:=by
 obtain⟨m,n,p⟩:=vm M a;unfold kP kO;obtain⟨c,f,q⟩:∃r s,a.aE= .mk r s:=by cases a.aE with|mk b d=>grind
 rw[q]at l⊢;have v:dI M (jj a).am c≠F:=by grind[dO]
 have g8:=zz k a.aG c _ _ _ m a3 v;rw[fx,nF];cases cV:eu M a.aG (jj a) c with|none=>(cases r3:ia M a.aG [] (lN a) c with|none=>rfl|some b=>exact xp)|some b=>cases r3:ia M a.aG [] (lN a) c with|none=>exact xp|some g=>rw[cV,r3]at g8;have d:fy M b g []:=g8.1;have e:=CW c _ _ n cV;rw[p]at e;obtain⟨w,x,y⟩:=g;obtain rfl:b.am=w:=d.cE;obtain rfl:b.ae=x:=d.jF;obtain rfl:b.bK=y:=d.oh;simp only[];by_cases h:aP b.am (bw f) 0≠0;(.rw[bB h,bB h];cases i:d9 b.ae f with|none=>rfl|some j=>simp only[];have z:=d.set j b.bK (li i) u;have A:ib {b with ae:=j}:=⟨by simp[li i,e.1.o],e.1.t⟩;have B:=Ih A e.2;rw[<-zw z 0,<-B];grind);.grind[Ih,zw]
def PU(a:aH):xq a=iO a:=by
 unfold xq iO;rw[zt];cases b:hl a with|false=>rfl|true=>simp only[Bool.true_and];have g:=b;simp only[hl,fH,hC]at b;rw[xg];simp only[hC];(have h:∀c∈a.ah,kP a c=kO a c:=by intro d e;have f:=b.2 d e;simp only[oc,fH,kf]at f;have d:=b.1;simp only[dU,p0,fH,hC]at d;grind[tr,ts,PT]);grind
structure fs(n xr:aH):Prop where
 d:n.ai=xr.ai
 f9:j n.ah=j xr.ah
 p:∀av,(dh n av).aC=(dh xr av).aC
 l:∀av,(dh n av).aG=(dh xr av).aG
 r:∀av,(dh n av).bu=(dh xr av).bu
def fs.PV{b:aH}(a:fs M b)(c:ab)(d e:Int)(f:ab):f2 M c d e f=f2 b c d e f:=by
 unfold f2 kl iL;simp only[a.d,a.f9,a.p,a.l,a.r]
mutual theorem fs.dO{a b:aH}(e:fs a b):∀(c:cd)(d:ab),Go.Proofs.YtfekcilkpafpjaaGreat.dO a d c=Go.Proofs.YtfekcilkpafpjaaGreat.dO b d c|.mk a c,b=>by rw[Go.Proofs.YtfekcilkpafpjaaGreat.dO,Go.Proofs.YtfekcilkpafpjaaGreat.dO,fs.dI e a b]theorem fs.dI{a b:aH}(c:fs a b):∀(d:bC)(e:ab),Go.Proofs.YtfekcilkpafpjaaGreat.dI a e d=Go.Proofs.YtfekcilkpafpjaaGreat.dI b e d|[],a=>by rw[Go.Proofs.YtfekcilkpafpjaaGreat.dI,Go.Proofs.YtfekcilkpafpjaaGreat.dI]|a::b,d=>by rw[Go.Proofs.YtfekcilkpafpjaaGreat.dI,Go.Proofs.YtfekcilkpafpjaaGreat.dI,fs.cU c a d];split;(.rfl);.exact fs.dI c b _ theorem fs.cU{b c:aH}(a:fs b c):∀(d:b7)(e:ab),Go.Proofs.YtfekcilkpafpjaaGreat.cU b e d=Go.Proofs.YtfekcilkpafpjaaGreat.cU c e d|.mk c d e f b,g=>by rw[j4,j4,a.PV];rw[fs.f3 a b,fs.f3 a b,a.d]theorem fs.f3{a b:aH}(c:fs a b):∀(d:dt)(e:ab)(f:List ab)(g:Option Int),Go.Proofs.YtfekcilkpafpjaaGreat.f3 a e d f g=Go.Proofs.YtfekcilkpafpjaaGreat.f3 b e d f g|[],a,b,d=>by rw[Go.Proofs.YtfekcilkpafpjaaGreat.f3,Go.Proofs.YtfekcilkpafpjaaGreat.f3]|a::b,d,e,f=>by rw[sd,sd,fs.dO c a,fs.f3 c b]end
theorem fs.fh{f:aH}(g:fs M f)(b:ab)(c d:Int)(a:ab):∀(h i:Nat)(j:ab),Go.Proofs.YtfekcilkpafpjaaGreat.fh M b c d a j h i=Go.Proofs.YtfekcilkpafpjaaGreat.fh f b c d a j h i|0,o,p=>by rw[Go.Proofs.YtfekcilkpafpjaaGreat.fh,Go.Proofs.YtfekcilkpafpjaaGreat.fh]|k+1,e,l=>by(have m:i9 M b c d a e=i9 f b c d a e:=by simp only[i9,fI,g.l]);rw[Go.Proofs.YtfekcilkpafpjaaGreat.fh,Go.Proofs.YtfekcilkpafpjaaGreat.fh,m,fs.fh g b c d a k (e+1) l];split;(.cases d9 l (aP a e 0)with|none=>rfl|some n=>exact fs.fh g b c d a k (e+1) n);.rfl
theorem fs.hD{f:aH}(g:fs M f)(a:ab)(b:br)(c d h:Int)(e:ab):Go.Proofs.YtfekcilkpafpjaaGreat.hD M a b c d h e=Go.Proofs.YtfekcilkpafpjaaGreat.hD f a b c d h e:=by
 have h:∀h,nE M a h b.cz c d e=nE f a h b.cz c d e:=λa=>by simp only[nE,fI,g.l]
 unfold Go.Proofs.YtfekcilkpafpjaaGreat.hD;rw[g.fh];grind
theorem fs.hO{a:aH}(e:fs M a)(b:br)(c d:Int):Go.Proofs.YtfekcilkpafpjaaGreat.hO M b c d=Go.Proofs.YtfekcilkpafpjaaGreat.hO a b c d:=by
 unfold Go.Proofs.YtfekcilkpafpjaaGreat.hO;simp only[e.d]
def gT:ab->Int->ab|[],a=>[a]|a::c,b=>if b<a then b::a::c else if b=a then a::c else a::gT c b
def bR(a:b7):Int:=aP a.ak 0 0
def ez(a:Int):Bool:=a==14||a==15
def cu(a b:Int):b7:= .mk a 0 0 [b] []
def di(a:bC):ab:=a.foldl (λa b=>gT a<|bR b) []
def fZ(a:b7)(b:Int):Int:=if bR a=b then(if a.af=14 then 1 else -1)else 0
def dJ(a:bC)(b:Int):Int:=(a.map λa=>fZ a b).sum
def lO(a:bC):ab:=(di a).flatMap λb=>List.replicate (dJ a b).toNat b
def mo(a:bC):ab:=(di a).flatMap λb=>List.replicate (-(dJ a b)).toNat b
def eP(a:bC):bC:=(lO a).map (cu 14)++(mo a).map (cu 15)
mutual def eX:cd->cd|.mk a b=> .mk (fz a []) b def fz:bC->bC->bC|[],a=>eP a|a::b,c=>if ez a.af then fz b (c++[a])else eP c++jl a::fz b []def jl:b7->b7|.mk a b c d e=> .mk a b c d (hP e)def hP:dt->dt|[]=>[]|a::b=>eX a::hP b end
def mT(a:dK):dK:={a with aE:=eX a.aE}
def hf(a:aH):aH:=⟨a.ai,a.ah.map mT⟩
def PW(a:aH)(b:dK->dK)(c:b ⟨[],[],0,.mk [] 0⟩=⟨[],[],0,.mk [] 0⟩)(c:Nat):dh ⟨a.ai,a.ah.map b⟩ c=b (dh a c):=by
 unfold dh;simp only[gS,xs];grind
def PX:eP []=[]:=by simp[eP,lO,mo,di]
def PY:mT ⟨[],[],0,.mk [] 0⟩=⟨[],[],0,.mk [] 0⟩:=by simp[mT,eX,fz,PX]
def fs.r4(n:aH):fs n (hf n):=⟨u,by simp[hf],λa=>Ii,λa=>Ii,λa=>Ii⟩
def vn(a:Int):dJ [] a=0:=rfl
def sf(b:b7)(c:bC)(a:Int):dJ (b::c) a=fZ b a+dJ c a:=by simp[dJ]
def Ij(b c:bC)(a:Int):dJ (b++c) a=dJ b a+dJ c a:=by simp[dJ]
theorem Ik:Y∈gT L N↔Y=N\/Y∈L:=by induction L with|nil=>simp[gT]|cons c d a=>rw[gT];split;(.simp);.split;(.rename_i b;subst b;simp);.simp only[ek,a];constructor;(. exact PZ);. exact PZ
def Q0(a:L.Pairwise (· < ·)):(gT L N).Pairwise (· < ·):=by induction L with|nil=>simp[gT]|cons b c d=>grind[List.pairwise_cons,gT,Ik]
theorem D2:∀(b:bC)(a:ab),a.Pairwise (· < ·)->(b.foldl (λc d=>gT c<|bR d) a).Pairwise (· < ·)/\∀c,c∈b.foldl (λd e=>gT d<|bR e) a↔c∈a\/∃a∈b,bR a=c|[],b,a=>⟨a,λa=>a8⟩|a::b,c,d=>by have:=D2 b (gT c<|bR a)<|Q0 d;refine⟨this.1,λa=>?_⟩;rw[tw,this.2,Ik];grind
def xt(a:bC):(di a).Pairwise (· < ·):=(D2 a [] .nil).1
def sg{a:bC}:N∈di a↔∃b∈a,bR b=N:=by
 rw[di,(D2 a [] .nil).2];simp
theorem p3:ez N=true↔N=14\/N=15:=by simp[ez]
def zB(a:bC):∀b∈eP a,ez b.af=true:=Q1
theorem Il:∀a:dt,j (hP a)=j a|[]=>by rw[hP]|b::a=>by rw[hP];simp[Il a]
def Im(a:b7):(jl a).af=a.af:=by
 cases a;rw[jl];rfl
mutual def zC(a:Int):cd->Nat|.mk b _=>ic a b def ic(a:Int):bC->Nat|[]=>0|b::c=>vo a b+ic a c def vo(a:Int):b7->Nat|.mk b _ _ _ c=>(if b=a then 1 else 0)+ty a c def ty(a:Int):dt->Nat|[]=>0|b::c=>zC a b+ty a c end
mutual def kQ:cd->Nat|.mk a _=>gK a def gK:bC->Nat|[]=>0|a::b=>lP a+gK b def lP:b7->Nat|.mk _ _ _ _ a=>1+kR a def kR:dt->Nat|[]=>0|a::b=>kQ a+kR b end
theorem zD(a:Int):∀b c:bC,ic a (b++c)=ic a b+ic a c|[],b=>by simp[ic]|d::b,c=>by rw[j0,ic,ic,zD a b c];omega
theorem D3:∀a b:bC,gK (a++b)=gK a+gK b|[],a=>by simp[gK]|c::a,b=>by rw[j0,gK,gK,D3 a b];omega
def lf(a:b7):Prop:=a.a7=[]
def In{s:b7}(b:lf s)(a:Int):vo a s=if s.af=a then 1 else 0:=by cases s with|mk d e f g c=>obtain rfl:c=[]:=b;rw[vo,ty];rfl
def Q2{s:b7}(a:lf s):lP s=1:=by cases s with|mk c d e f b=>obtain rfl:b=[]:=a;simp[lP,kR]
theorem D4:∀{a:bC},(∀b∈a,lf b)->gK a=j a|[],_=>by rw[gK];rfl|a::c,b=>by rw[gK,Q2 (b a a8),D4 a3];simp;omega
def ho(a:bC)(b c:Int):Nat:=a.countP λa=>a.af==b&&bR a==c
def D5(a:b7)(d:bC)(b c:Int):ho (a::d) b c=(if a.af=b/\bR a=c then 1 else 0)+ho d b c:=by
 rw[ho,vp,<-ho];grind
theorem Io{a:bC}(e:∀c∈a,ez c.af=true)(b:Int):dJ a b=(ho a 14 b:Int)- ho a 15 b:=by induction a with|nil=>rfl|cons f g d=>rw[sf,d a3,D5,D5,fZ];grind[p3,bR]
def Q3(a:ab)(d:a.Pairwise (· < ·))(b:Int):(a.map λc=>if b=c then 1 else 0).sum=if b∈a then 1 else(0:Nat):=by induction a with|nil=>rfl|cons e f g=>grind[List.pairwise_cons]
theorem sum_add(a b:Int->Nat):∀c:ab,(c.map λd=>a d+b d).sum=(c.map a).sum+(c.map b).sum|[]=>rfl|d::c=>by simp only[h0,Cz,sum_add a b c];omega
theorem D6(a:Int)(c:L.Pairwise (· < ·)):∀d:bC,(∀g∈d,bR g∈L)->(L.map λh=>ho d a h).sum=d.countP λi=>i.af==a|[],_=>by(have:∀b:ab,(b.map λe=>ho [] a e).sum=0:=by intro f;induction f with|nil=>rfl|cons k l j=>rw[h0,Cz,j];rfl);rw[this];rfl|b::k,e=>by simp only[D5];rw[sum_add,D6 a c k a3,vp];(have:(L.map λj=>if b.af=a/\bR b=j then 1 else 0).sum=if b.af=a then 1 else(0:Nat):=by by_cases f:b.af=a;(.simp only[f,true_and];rw[Q3 L c (bR b),bB (e b a8)];rfl);.simp only[f,false_and,nC];clear e c;induction L with|nil=>rfl|cons l m n=>grind);grind
def Ip(a:Int->Nat):∀b:ab,j (b.flatMap λc=>List.replicate (a c) c)=(b.map a).sum|[]=>rfl|a::b=>bq
theorem Iq(a b:Int->Nat)(c:∀d,a d<=b d):∀d:ab,(d.map a).sum<=(d.map b).sum|[]=>cF _|d::e=>by simp only[h0,Cz];have:=Iq a b c e;have:=c d;omega
def Ir{a:bC}(b:∀b∈a,ez b.af=true):j (lO a)+(a.countP λb=>b.af==15)=j (mo a)+(a.countP λb=>b.af==14)/\j (lO a)<=a.countP λb=>b.af==14:=by
 have b:=xt a;have c:∀d∈a,bR d∈di a:=λd e=>sg.2 ⟨d,e,u⟩;have d:=D6 14 b a c;have e:=D6 15 b a c;rw[lO,mo,Ip,Ip,<-d,<-e];have c:∀b,(dJ a b).toNat=ho a 14 b - ho a 15 b:=λb=>by grind[Io]
 have d:∀b,(-(dJ a b)).toNat=ho a 15 b - ho a 14 b:=λa=>by grind[Io]
 simp only[c,d];constructor;.rw[<-sum_add,<-sum_add];congr 1;refine List.map_congr_left λa _=>?_;omega
 .exact Iq _ _ (λa=>m) _
def Q4(a b:Int):lf (cu a b):=rfl
theorem Q5(a:bC):∀b∈eP a,lf b:=Q1
theorem D7(b a:Int):∀c:ab,ic b (c.map<|cu a)=if a=b then(j c)else 0|[]=>by simp[ic]|c::d=>by rw[h0,ic,D7 b a d,In (Q4 a c)];show(if a=b then 1 else 0)+_=_;grind
theorem Is(a:Int):∀{b:bC},(∀c∈b,lf c)->ic a b=b.countP λb=>b.af==a|[],_=>by rw[ic];rfl|b::d,c=>by rw[ic,In (c b a8),Is a a3,vp];grind
structure CC(a b:Int->Nat)(ea Q6:Nat):Prop where
 Q7:b 14+a 15=b 15+a 14
 le:b 14<=a 14
 o16:b 16=a 16
 a1r:b 17=a 17
 ch:Q6+a 14+a 15=ea+b 14+b 15
def CC.add{a b c d:Int->Nat}(g:CC a b e J)(h:CC c d Q V):CC (λf=>a f+c f) (λa=>b a+d a) (e+Q) (J+V):=by
 obtain⟨a,a,a,a,a⟩:=g;obtain⟨a,a,a,a,a⟩:=h;exact⟨m,m,m,m,m⟩
def It{a:bC}(b:∀g∈a,ez g.af=true/\lf g):CC (λn=>ic n a) (λo=>ic o<|eP a) (gK a) (gK<|eP a):=by
 have h:∀p∈a,ez p.af=true:=λq r=>(b q r).1;have c:∀s∈a,lf s:=λt u=>(b t u).2;obtain⟨v,w⟩:=Ir h;have i:∀d,ic d (eP a)=(if(14:Int)=d then(j<|lO a)else 0)+if(15:Int)=d then(j<|mo a)else 0:=λE=>by rw[eP,zD,D7,D7]
 have k:∀l,ic l a=a.countP λx=>x.af==l:=λy=>Is y c;have e:∀f:Int,f≠14->f≠15->(a.countP λz=>z.af==f)=0:=λF G H=>by grind[List.countP_eq_zero,p3]
 have I:j a=(a.countP λA=>A.af==14)+a.countP λB=>B.af==15:=by clear v w i k e c b;induction a with|nil=>rfl|cons C J D=>have:=D a3;rw[vp,vp,gI,this];rcases p3.1 (h C a8)with m|m<;>simp[m]<;>omega
 have b:=D4 c;have b:gK (eP a)=j (lO a)+j (mo a):=by grind[D4,Q5,eP]
 refine⟨?_,?_,?_,?_,?_⟩;all_goals simp only[i,k]
 .simp;omega
 .simp;omega
 .rw[e 16 bi bi];simp
 .rw[e 17 bi bi];simp
 grind
mutual def xu:cd->Prop|.mk a _=>tz a def tz:bC->Prop|[]=>True|a::b=>tA a/\tz b def tA:b7->Prop|.mk b _ _ _ a=>(ez b=true->a=[])/\sh a def sh:dt->Prop|[]=>True|a::b=>xu a/\sh b end
theorem Q8{s:b7}(a:tA s)(b:ez s.af=true):lf s:=by cases s with|mk c d e f g=>rw[tA]at a;exact a.1 b
mutual theorem Iu:∀a:cd,xu a->CC (λk=>zC k a) (λl=>zC l<|eX a) (kQ a) (kQ<|eX a)|.mk n v,f=>by rw[xu]at f;simp only[eX,zC,kQ];have:=D8 n [] f a8;simp only[ic,gK,gF]at this;exact this theorem D8:∀(b c:bC),tz b->(∀g∈c,ez g.af=true/\lf g)->CC (λh=>ic h c+ic h b) (λo=>ic o<|fz b c) (gK c+gK b) (gK<|fz b c)|[],w,_,p=>by simp only[fz,ic,gK,jW];exact It p|e::i,r,d,s=>by rw[tz]at d;rw[fz];cases x:ez e.af with|true=>simp only[mn];have:=D8 i (r++[e]) d.2 (λj j=>by rcases cI.1 j with q|q;(.grind);.grind[Q8]);simp only[zD,D3,ic,gK,jW]at this⊢;simp only[tB]at this;exact this|false=>simp only[vq,nC];have q:=It s;have t:=Q9 e d.1;have j:=D8 i [] d.2 a8;simp only[ic,gK,gF]at j;have:=q.add<|t.add j;simp only[zD,D3,ic,gK];exact this theorem Q9:∀a:b7,tA a->CC (λb=>vo b a) (λb=>vo b<|jl a) (lP a) (lP<|jl a)|.mk a d e f c,b=>by rw[tA]at b;simp only[jl,vo,lP];have d:=Iv c b.2;have b:CC (λc=>if a=c then 1 else 0) (λc=>if a=c then 1 else 0) 1 1:=⟨m,m,u,u,m⟩;exact b.add d theorem Iv:∀a:dt,sh a->CC (λb=>ty b a) (λb=>ty b<|hP a) (kR a) (kR<|hP a)|[],_=>by simp only[hP,ty,kR];exact⟨u,cF _,u,u,u⟩|b::c,a=>by rw[sh]at a;simp only[hP,ty,kR];exact(Iu b a.1).add<|Iv c a.2 end
def xv{s:b7}(i:ez s.af=true)(a:0<=cU M L s):s=cu s.af (bR s)/\bS 0 (bR s) (j L - 1)=true/\aP L (bR s).toNat 0≠0:=by
 obtain⟨f,g,q,b,c⟩:=s;have d:=p3.1 i;simp only[b7.af]at d;have t:¬(0:Int)<= -1:=m;have k:=vj a<|aM (by rcases d with rfl|rfl<;>rfl);have l:=I9 a m;subst l;rw[j4]at a;split at a;.omega
 .rename_i v;(have h:ip L (.mk f g 0 b c)=true:=a3);simp only[ip,b7.an,b7.af,b7.a7,b7.b1,fH,D9,Da]at h;(have w:iK f=false:=by rcases d with rfl|rfl<;>rfl);(have n:g=0:=a3);(have o:c=[]:=by rcases h.2 with(e|e)|e;(.cases c with|nil=>rfl|cons p r=>simp at e);(.grind);grind);rw[be m,be m]at a;unfold f2 at a;rw[be m,be m,be m,be m,be m,be m,bB m]at a;unfold iL at a;split at a;(.rename_i e;(obtain⟨x,rfl⟩:∃p,b=[p]:=by match b,k with|[r],_=>exact⟨r,u⟩);subst n o;exact⟨u,e.2.1,e.2.2⟩);omega
def Iw(a:N=14\/N=15)(a:bS 0 Y (j L - 1)=true)(a:aP L (bw Y) 0≠0):cU M L (cu N Y)=0:=by
 have a:cU M L (cu N Y)=f2 M L N 0 [Y]:=by rw[cu,j4];rw[be (show¬ip L (.mk N 0 0 [Y] [])=false by simp[ip,b7.an,b7.a7,b7.b1,kN]),be m,be m]
 rw[a];unfold f2;rw[be m,be m,be m,be m,be m,be m,bB m];unfold iL;grind
def r5(b:aH)(c:ab)(d:bC):Prop:=∀a∈d,ez a.af=true/\0<=cU b c a
def r5.arg{a:bC}(b:r5 M L a):∀c∈di a,bS 0 c (j L - 1)=true/\aP L (bw c) 0≠0:=by
 intro g f;obtain⟨d,e,rfl⟩:=sg.1 f;exact(xv (b d e).1 (b d e).2).2
theorem r5.eP{a:bC}(d:r5 M L a):r5 M L (eP a):=by
 intro g e;refine⟨zB a g e,?_⟩;have:∀b,b∈lO a\/b∈mo a->b∈di a:=by intro c f;rcases f with c|c;(.obtain⟨f,f,f⟩:=List.mem_flatMap.1 c;grind);.obtain⟨f,f,f⟩:=List.mem_flatMap.1 c;grind
 rcases cI.1 e with c|c;.obtain⟨f,h,rfl⟩:=iJ.1 c;have:=d.arg f<|this f<|aM h;rw[Iw (aM u) this.1 this.2];omega
 .obtain⟨f,h,rfl⟩:=iJ.1 c;have:=d.arg f<|this f<|bj h;rw[Iw (bj u) this.1 this.2];omega
def xw(b2:ez N=true):gr N=false:=Qa
theorem Db:∀{a:bC}(b:bC),r5 M L a->dI M L (a++b)=dI M L b|[],a,_=>rfl|b::d,c,a=>by have d:=a b a8;rw[j0,dI,be m,xw d.1];exact Db c λb c=>a b<|gb _ c
mutual theorem Ix{c:aH}:∀(g:cd)(h:ab),0<=dO c h g->dO c h (eX g)=dO c h g|.mk l y,n,z=>by rw[eX,dO,dO];(have a:dI c n l≠F:=by grind[dO]);rw[Dc l [] n Dd a]theorem Dc{b:aH}:∀(i j:bC)(d:ab),r5 b d j->dI b d i≠F->dI b d (fz i j)=dI b d i|[],A,D,t,_=>by rw[fz];have:=Db [] t.eP;grind|e::o,u,k,p,a=>by rw[dI]at a;have f:¬cU b k e<0:=λv=>a<|bB v;rw[be f]at a;rw[fz];cases q:ez e.af with|true=>simp only[mn];rw[xw q]at a;rw[Dc o (u++[e]) k (λw x=>by rcases cI.1 x with r|r;(.exact p w r);.grind) a,dI,be f,xw q];rfl|false=>simp only[vq,nC];rw[Db _ p.eP,dI,Iy e k m,be f,Im,dI,be f];exact Dc o [] _ Dd a theorem Iy{a:aH}:∀(b:b7)(c:ab),0<=cU a c b->cU a c (jl b)=cU a c b|.mk c b e f a,d,h=>by have g:=tx h;have h:=Il a;rw[jl,j4,j4,h];(have i:ip d (.mk c b e f<|hP a)=ip d (.mk c b e f a):=by simp only[ip,b7.a7,b7.an,b7.af,b7.b1,h];try rfl);rw[i];by_cases b:c=7;(.rw[bB b,De a [[],[]] F d (g.1 b).2,bB b]);.rw[be b,be b];by_cases b:c=8;(.rw[bB b,De a _ F d (g.2 b).2.2,bB b]);.rw[be b,be b]theorem De{a:aH}:∀(b:dt)(c:List ab)(d:Option Int)(e:ab),0<=f3 a e b c d->f3 a e (hP b) c d=f3 a e b c d|[],a,b,c,_=>by rw[hP]|b::c,d,a,e,f=>by have a:=q7 f;rw[hP,sd,sd,Ix b _ a.1,De c d.tail _ e a.2]end
mutual theorem Iz{n:aH}:∀(g:cd)(v:ab),0<=dO n v g->xu g|.mk D I,E,k=>by rw[xu];refine IA (n:=n) D E λa=>?_;rw[dO,a]at k;simp at k theorem IA{n:aH}:∀(h:bC)(w:ab),dI n w h≠F->tz h|[],J,_=>by grind[tz]|l::H,o,b=>by rw[dI]at b;have a:¬cU n o l<0:=λc=>b<|bB c;rw[be a]at b;rw[tz];exact⟨Qb (n:=n) l o m,IA H _ b⟩theorem Qb{n:aH}:∀(i:b7)(x:ab),0<=cU n x i->tA i|.mk c p r t a,e,d=>by rw[tA];refine⟨λB=>?_,?_⟩;(.have:=(xv (s:= .mk c p r t a) B d).1;simp only[cu,b7.mk.injEq]at this;grind);.by_cases K:a=[];(.grind[sh]);.have q:=tx d;by_cases C:c=7;(.exact Df a _ _ e (q.1 C).2);.by_cases G:c=8;(.exact Df a _ _ e (q.2 G).2.2);.exfalso;rw[j4]at d;split at d;(.omega);.rename_i L;(have u:ip e (.mk c p r t a)=true:=a3);simp only[ip,b7.a7,b7.af,fH,D9,Da]at u;rcases u.2 with(f|f)|f;(.cases a with|nil=>grind|cons M N=>simp at f);(.grind);grind theorem Df{n:aH}:∀(j:dt)(y:List ab)(z:Option Int)(A:ab),0<=f3 n A j y z->sh j|[],a,b,c,_=>by grind[sh]|b::c,a,f,d,e=>by have a:=q7 e;rw[sh];exact⟨Iz b _ a.1,Df c _ _ d a.2⟩end
mutual theorem Dg:∀(e:cd)(b:Int),0<=b->h4 e b=if(kQ e:Int)<=b then G (b - kQ e)else F|.mk h l,i,k=>by rw[h4,IB h i k,kQ]theorem IB:∀(f:bC)(c:Int),0<=c->lg f c=if(gK f:Int)<=c then G (c - gK f)else F|[],n,o=>by rw[lg,gK,bB m];simp|a::g,d,p=>by(have j:1<=lP a:=by cases a;rw[lP];omega);rw[lg,gK];by_cases b:d<1;(.rw[bB b,be m]);.rw[be b,Qc a (d - 1) m];by_cases b:(lP a:Int)<=d;(.rw[bB m];simp only[];rw[IB g _ m];by_cases b:(lP a:Int)+gK g<=d;(.rw[bB m,bB m];congr 1;omega);.rw[be m,be m]);.rw[be m,be m]theorem Qc:∀(b:b7)(a:Int),0<=a->sb b a=if(lP b:Int)- 1<=a then G (a -(lP b - 1))else F|.mk d e f g a,b,c=>by rw[sb,IC a b c,lP];by_cases c:(kR a:Int)<=b;(.rw[bB c,bB m];congr 1;omega);.rw[be c,be m]theorem IC:∀(b:dt)(a:Int),0<=a->lL b a=if(kR b:Int)<=a then G (a - kR b)else F|[],a,b=>by rw[lL,kR,bB m];simp|a::c,b,d=>by rw[lL,kR,Dg a b d];by_cases d:(kQ a:Int)<=b;(.rw[bB d];simp only[];rw[IC c _ m];by_cases e:(kQ a:Int)+kR c<=b;(.rw[bB m,bB m];congr 1;omega);.rw[be m,be m]);.rw[be d,be m]end
def ID{a:cd}:(h4 a 600).isSome=decide (kQ a<=600):=by grind[Dg]
def Qd(c:hl M=true):hl (hf M)=true:=by
 have b:=fs.r4 M;simp only[hl,fH,hC]at c⊢;have d:dU (hf M)=true:=by(have a:dU (hf M)=dU M:=by unfold dU p0;rw[<-b.d,<-b.f9,<-b.p,<-b.r];simp only[hf,List.all_map];rfl);grind
 refine⟨d,λg e=>?_⟩;obtain⟨a,f,rfl⟩:=iJ.1 e;have d:=c.2 a f;simp only[oc,fH,kf,ID,xi]at d⊢;have d:0<=dO M a.aC a.aE:=by have e:=c.1;simp only[dU,p0,fH,hC]at e;grind[tr,ts]
 have c:=Iu a.aE<|Iz a.aE _ d;refine⟨?_,?_⟩;. obtain⟨d,d,d⟩:=oW c.ch c.Q7 c.le;show kQ (eX a.aE)<=600;omega
 .rw[<-b.dO];show dO M a.aC (eX a.aE)=a.bu;grind[Ix]
inductive lj(aG ae cz:ab):Int->Prop|ae{v:Int}(IE:0<=v)(b2:1<=aP ae (bw v) 0):lj aG ae cz v|aG{v:Int}(b2:dN aG v=true):lj aG ae cz v|cz{v:Int}(b2:0<=aP cz (bw v) 0)(mj:lj aG ae cz (aP cz (bw v) 0)):lj aG ae cz v
def lj.mono{c a:ab}(g:∀b:Int,0<=b->1<=aP X (bw b) 0->lj L c a b)(d:lj L X a N):lj L c a N:=by induction d with|ae e e=>grind|aG e=>exact .aG e|cz e _ f=>exact .cz e f
def oj(c d a:ab)(b:b7):Option ab:=if b.af=14 then(if gi c a d (j a) (bR b)then G (a.set (bR b).toNat<|aP a (bR b).toNat 0+1)else F)else d9 a (bR b)
structure Qe(aG cz:ab)(gc:bC)(ae o:ab):Prop where
 f9:j o=j ae
 dA:∀av:Nat,av<j ae->o.getD av 0=aP ae av 0+dJ gc av
 dup:∀s∈gc,s.af=14->lj aG ae cz (bR s)
 drop:∀s∈gc,s.af=15->0<=o.getD (bR s).toNat 0
def xx(b:hl M=true){a:dK}(c:a∈M.ah):dU M=true/\dp M.ai a.aC=true/\0<=dO M a.aC a.aE/\kQ a.aE<=600/\dO M a.aC a.aE=a.bu:=by
 simp only[hl,fH,hC]at b;have d:=b.2 a c;simp only[oc,fH,kf,ID,xi]at d;have a:=b.1;simp only[dU,p0,fH,hC]at a;grind[tr,ts]
def iP(a:ab):Prop:=∀b:Nat,0<=aP a b 0
theorem iP.set(a:iP L)(av:Nat){aS:Int}(b:0<=aS):iP (L.set av aS):=by
 intro b;rw[gS,List.getElem?_set];split;.grind
 .have:=a b;rwa [gS]at this
theorem iP.d9(b:iP L)(a:d9 L N=G X):iP X:=by
 unfold Go.Proofs.YtfekcilkpafpjaaGreat.d9 at a;split at a;.cases a
 .cases a;exact b.set _ m
theorem iP.hd:∀(b a:ab)(c:Int),iP a->iP (hd a c b)|[],b,c,a=>a|d::b,e,c,a=>by rw[Go.Proofs.YtfekcilkpafpjaaGreat.hd];refine iP.hd b _ _ ?_;split;(.exact a.set _ (by have:=a<|bw c;omega));.exact a
theorem iP.fh:∀(l m:Nat)(c d:ab),iP c->fh M L N Y X c l m=G d->iP d|0,o,p,r,b2,cT=>Qf|f+1,b,g,i,k,a=>by rw[Go.Proofs.YtfekcilkpafpjaaGreat.fh]at a;split at a;(.cases j:Go.Proofs.YtfekcilkpafpjaaGreat.d9 g (aP X b 0)with|none=>grind|some n=>rw[j]at a;exact iP.fh f (b+1) n i (k.d9 j) a);.exact iP.fh f (b+1) g i k a
def iP.app(c:iP L)(d:∀e∈X,0<=e):iP (L++X):=by
 intro a;rw[gS];rcases la a (j L)with b|b;.rw[tk b];have:=c a;rwa [gS]at this
 .rw[v4 b];cases f:X[a - j L]? with|none=>simp|some g=>exact d g<|sc f
theorem iP.take(a:iP L)(b:Nat):iP (L.take b):=by
 intro b;rw[gS,List.getElem?_take];split;.have:=a b;rwa [gS]at this
 .simp
def iP.gk{n:aH}(a:iP W.ae)(b:Int)(d:ab)(c:Int):iP (fR n W b d c).ae:=by
 unfold fR;split;.rw[r2];exact a.app a3
 .exact a
mutual def p4:cd->Prop|.mk a _=>p5 a def p5:bC->Prop|[]=>True|a::b=>si a/\p5 b def si:b7->Prop|.mk a _ _ b c=>(ez a=true->b≠[])/\nH c def nH:dt->Prop|[]=>True|a::b=>p4 a/\nH b end
theorem Qg(a:cd):p4 a=p5 a.ao:=by
 cases a;rw[p4];rfl
theorem IF(a:b7):si a=((ez a.af=true->a.ak≠[])/\nH a.a7):=by
 cases a;rw[si];rfl
theorem IG:∀{a:bC},p5 a->∀{b:Nat}(c:b<j a),si a[b]|a::b,c,0,_=>by grind[p5]|b::c,a,d+1,e=>by rw[p5]at a;exact IG a.2 a3
theorem IH:∀{a:dt},nH a->∀{b:Nat}(c:b<j a),p4 a[b]|a::b,c,0,_=>by grind[nH]|b::c,a,d+1,e=>by rw[nH]at a;exact IH a.2 a3
mutual theorem Dh{n:aH}:∀(d:cd)(j:ab),0<=dO n j d->p4 d|.mk i t,k,c=>by rw[p4];refine II (n:=n) i k λi=>?_;rw[dO,i]at c;simp at c theorem II{n:aH}:∀(e:bC)(l:ab),dI n l e≠F->p5 e|[],c,_=>by grind[p5]|i::t,k,c=>by rw[dI]at c;have u:¬cU n k i<0:=λv=>c<|bB v;rw[be u]at c;rw[p5];exact⟨Qh (n:=n) i k m,II t _ c⟩theorem Qh{n:aH}:∀(f:b7)(o:ab),0<=cU n o f->si f|.mk af an b1 ak a7,am,b2=>by rw[si];refine⟨λc=>?_,?_⟩;(.have:=(xv (s:= .mk af an b1 ak a7) c b2).1;simp only[cu,b7.mk.injEq]at this;rw[this.2.2.2.1];simp);.by_cases c:a7=[];(.grind[nH]);.have c:=tx b2;by_cases i:af=7;(.exact Di a7 _ _ am (c.1 i).2);.by_cases i:af=8;(.exact Di a7 _ _ am (c.2 i).2.2);. exact Qi theorem Di{n:aH}:∀(g:dt)(p:List ab)(q:Option Int)(r:ab),0<=f3 n r g p q->nH g|[],c,d,e,_=>by grind[nH]|d::e,c,i,f,g=>by have c:=q7 g;rw[nH];exact⟨Dh d _ c.1,Di e _ _ f c.2⟩end
theorem IJ(a:cd):kQ a=gK a.ao:=by
 cases a;rw[kQ];rfl
def IK(a:b7):lP a=1+kR a.a7:=by
 cases a;rw[lP];rfl
theorem IL:∀{fg:bC}{av:Nat}(a:av<j fg),lP fg[av]<=gK fg|a::b,0,_=>by rw[gK];simp|c::a,b+1,d=>by rw[gK];have:=IL (fg:=a) (av:=b) a3;simp only[jT];omega
theorem IM:∀{dS:dt}{av:Nat}(a:av<j dS),kQ dS[av]<=kR dS|a::b,0,_=>by rw[kR];simp|c::a,b+1,d=>by rw[kR];have:=IM (dS:=a) (av:=b) a3;simp only[jT];omega
theorem IN:∀a:bC,j a<=gK a|[]=>by simp[gK]|a::b=>by rw[gK];have:=IN b;have b:=IK a;simp only[gI];omega
def zE{a:bC}(c:∀d∈a,ez d.af=true):j (eP a)<=j a:=by
 have i:=Ir c;have k:=((by intro e;induction e with|nil=>grind|cons f l g=>intro h;have m:=g a3;rw[vp,vp,gI];rcases p3.1 (h f a8)with b|b<;>simp[b]<;>omega:∀b:bC,(∀d∈b,ez d.af=true)->(b.countP λd=>d.af==14)+(b.countP λd=>d.af==15)=j b)) a c;rw[eP,eV,fC,fC];omega
def IP(a:cd):eX a= .mk (fz a.ao []) a.aV:=by
 cases a;rw[eX];rfl
def IQ(a:b7):jl a= .mk a.af a.an a.b1 a.ak (hP a.a7):=by
 cases a;rw[jl];rfl
theorem Dj:∀a:dt,hP a=a.map eX|[]=>by rw[hP];rfl|b::a=>by rw[hP,Dj a];rfl
def Qj(a:bC):fz [] a=eP a:=by rw[fz]
def IR{a:b7}(b:ez a.af=true)(b c:bC):fz (a::b) c=fz b (c++[a]):=by grind[fz]
def IS{a:b7}(b:ez a.af=false)(b c:bC):fz (a::b) c=eP c++jl a::fz b []:=by grind[fz]
def fi(a:a5)(b:ay)(c:Ending)(d:a5):Prop:=c=bg b/\H [] a d
def ol(a:a5)(b:ay)(c:Ending)(d:a5):Prop:=c=bg b/\∃b,d=gg a b
def ol.a9{A:a5}{a:Ending}(b:ol A K a i):fi A K a i:=by
 obtain⟨c,d,rfl⟩:=b;exact⟨c,ap.drewN d⟩
def drawn{wr:a5}(b:∃c,wr=gg i c)(a:Nat):∃d,gg wr a=gg i d:=by
 obtain⟨e,rfl⟩:=b;exact⟨e+a,a8⟩
def ol.dA{a:Ending}(b:ol (gg i e) K a P):ol i K a P:=by
 obtain⟨c,d,rfl⟩:=b;exact⟨c,e+d,a8⟩
def Ql(a:Int)(b:a5):aR aK 87 #[ag a] b λc d=>c=bg (.bool<|eE a)/\b=d:=by
 go_enter func87,ntmps87;go_wp2_with(go_at_call 107;apply(gG _ _ _ _).mono;rintro a a⟨rfl,rfl⟩);go_ret;exact⟨u,u⟩
def Dn(a:Int)(b:a5):aR aK 121 #[ag a] b λc d=>c=bg (.bool<|gr a)/\b=d:=by
 go_enter func121,ntmps121;go_wp2_with(go_at_call 107;apply(gG _ _ _ _).mono;rintro a a⟨rfl,rfl⟩);go_ret;exact⟨u,u⟩
def r6(a:Int)(b:a5):aR aK 158 #[ag a] b λc d=>c=bg (.bool<|iK a)/\b=d:=by
 rcases(m:a=0\/a=6\/a=8\/a=9\/a=10\/(¬a=0/\¬a=6/\¬a=8/\¬a=9/\¬a=10))with rfl|rfl|rfl|rfl|rfl|⟨e,f,g,h,i⟩;. exact zH
 . exact zH
 . exact zH
 . exact zH
 . exact zH
 . (have b:(a==0)=false:=a3);(have b:(a==6)=false:=a3);(have b:(a==8)=false:=a3);(have b:(a==9)=false:=a3);(have b:(a==10)=false:=a3);(have b:iK a=false:=by grind[iK]);rw[b];clear b;go_enter func158,ntmps158;go_wp2;go_ret;exact⟨u,u⟩
def Qm(a:b3)(b:ab)(c:Int):dp a (b++[c])=(dp a b&&bS 0 c (j a)):=by simp[dp]
def IX(a:e<j L)(a:bS 0 L[e] (j O)=false):dp O L=false:=by grind[dp,List.getElem_mem,mM]
def IY(g h:ay)(b:b3)(a:ab)(c:a5)(i:a6 w c (dd b) g)(d:a6 w c (aI a) h):aR aK 157 #[g,h] c λk l=>k=bg (.bool<|dp b a)/\c=l:=by
 have n:=y d;obtain⟨q,r,rfl,s,t⟩:=bF d;obtain⟨v,x,rfl,_⟩:=gq i;clear d i;go_enter func157,ntmps157;go_wp2;go_loop [5](λo=>∃e:Nat,e<=j a/\o=ag e/\dp b (a.take e)=true)(λp=>j a -(intOf p).toNat);.grind[dp]
 obtain⟨f,z,rfl,mi:aj _⟩:=hrel;by_cases f0:f<j a;(.obtain⟨A,B,rfl,_,C,D⟩:=bY n f0;cases p6:bS 0 a[f] (j b);(.go_wp2_with(go_at_call 107;refine ad (gG _ _ _ _) ?_;rintro a a⟨rfl,rfl⟩);go_ret;exact⟨cS (IX f0 p6).symm,u⟩);.go_wp2_with(go_at_call 107;apply(gG _ _ _ _).mono;rintro a a⟨rfl,rfl⟩);go_round;(.exact⟨f+1,m,bf,Qn⟩);exact bc);. exact HG
def r7(b c d:ab)(a:Nat):Bool:=(aQ a).all λa=>bS 0 (aP c a 0) (j b - 1)&&aP b (aP c a 0).toNat 0==aP d a 0
def IZ(c a b:ab):eF c a b=(j a==j b&&r7 c a b (j a)):=rfl
def Qo(b c d:ab)(a:Nat):r7 b c d (a+1)=(r7 b c d a&&(bS 0 (aP c a 0) (j b - 1)&&aP b (aP c a 0).toNat 0==aP d a 0)):=by simp[r7,tq]
def Qp{am Do:ab}(a:e<j L)(b:(bS 0 (aP L e 0) (j am - 1)&&aP am (aP L e 0).toNat 0==aP Do e 0)=false):r7 am L Do (j L)=false:=by grind[r7,List.all_eq_true]
def zI(q r s:ay)(a b c:ab)(e:a5)(h:a6 w e (aI a) q)(i:a6 w e (aI b) r)(k:a6 w e (aI c) s)(S:j a<=1073741824):aR aK 160 #[q,r,s] e (ol e<|.bool<|eF a b c):=by
 obtain⟨F,G,I⟩:=bb h i k;obtain⟨T,U,rfl,_⟩:=bF h;obtain⟨V,W,rfl,_⟩:=bF i;obtain⟨X,Y,rfl,_⟩:=bF k;clear h i k;by_cases hQ:j b=j c;. (have d:(j b==j c)=true:=Dp);obtain⟨lQ,Z⟩:=aq (by rw[IZ,d];rfl:eF a b c=r7 a b c (j b)) hQ;generalize Qq:j b=f at*;generalize a0:j c=J at*;have K:f=J:=hQ;clear d hQ;subst K;go_enter func160,ntmps160;go_wp2;go_loopw [7](λL wr=>∃l:Nat,l<=f/\L=ag l/\r7 a b c l=true/\∃M,wr=gg e M)(λN _=>f -(intOf N).toNat);(.exact⟨0,Nat.zero_le _,u,by simp[r7],0,u⟩);obtain⟨d,a1,rfl,t:aj _,j6:aj _⟩:=hrel;have n:=y (Qr:H [] e wr);by_cases a2:d<f;(. (have o:d<j b:=m);(have v:d<j c:=m);obtain⟨a3,a4,rfl,_,a7,a8⟩:=bY (G.I n) o;obtain⟨a9,aa,rfl,_,ad,ae⟩:=bY (I.I n) v;obtain⟨p,c6⟩:=aq (Qo a b c d) (Qp (am:=a) (Do:=c) o);(have g:aP b d 0=b[d]:=by simp[o]);(have x:aP c d 0=c[d]:=by simp[v]);rw[g,x]at p c6;clear g x;generalize b[d]=x at*;generalize c[d]=O at*;cases z:bS 0 x (j a - 1);(. (have g:∀A,aR aK 107 #[ag x,ag 0,ag ((j a:Int)- 1)] (gg wr A) λB C=>B=bg (.bool false)/\gg wr A=C:=λA=>Dq);have A:=y g;have B:IntKind.i64.wrap ((j a:Int)- 1)=(j a:Int)- 1:=fD _ m;clear g;go_wp2;go_quiet((go_at_call 107;exact kg<|A _));go_wp2;go_ret;exact⟨cS Qs,drawn j6 _⟩);.obtain⟨P,af⟩:=fr z;obtain⟨g,rfl⟩:=dB P;(have A:g<j a:=m);obtain⟨ah,ai,rfl,_,ak,al⟩:=bY (F.I n) A;(have B:aP a ((g:Int)).toNat 0=a[g]:=by simp[A]);(have C:∀D,aR aK 107 #[ag g,ag 0,ag ((j a:Int)- 1)] (gg wr D) λQ R=>Q=bg (.bool true)/\gg wr D=R:=λan=>Dq);have E:=y C;have ao:IntKind.i64.wrap ((j a:Int)- 1)=(j a:Int)- 1:=fD _ m;rw[B]at p c6;clear C B;generalize a[g]=B at*;cases C:(B==O);(.go_wp2;go_quiet((go_at_call 107;exact kg<|E _));go_wp2;go_ret;exact⟨cS Qs,drawn j6 _⟩);.go_wp2;go_quiet((go_at_call 107;exact kg<|E _));go_wp2;go_roundw;(.exact⟨d+1,m,bf,by rw[p.h,t.h,z,C];rfl,drawn j6 _⟩);exact bc);.go_wp2;go_ret;exact⟨cS (by rw[lQ.h,<-t.h,show d=f by omega]),j6⟩
 . (have d:(j b==j c)=false:=Dp);have e:=y (by rw[IZ,d];rfl:eF a b c=false);clear d;go_enter func160,ntmps160;go_wp2;go_ret;exact⟨cS e.symm,0,u⟩
def BytesAt(e f:Nat)(g:a5)(h:az)(a:Nat):Prop:=∀c,c<a->∃a d b,h=aX a d/\a<e/\a≠f/\0<=b/\b<=255/\aZ g a (d+c) (.int .u8 b)
structure d1(b9:Nat)(A:a5)(aT:Nat)(p:Nat):Prop where
 lt:aT<b9
 q9:∃a f9 du,f9<=2000/\A.heap[aT]?=G (au #[q a f9 du,ag p] 89 (0,0))/\BytesAt b9 aT A a f9
def BytesAt.a9{cY:aw}{A:a5}(b:BytesAt e J A R Q)(c:H cY A i)(a:∀a,a∈cY->a=J\/e<=a):BytesAt e J i R Q:=λa d=>by obtain⟨e,f,g,h,i,j,k,l,m⟩:=b a d;refine⟨e,f,g,h,i,j,k,l,c.aJ m λa=>?_⟩;grind
theorem d1.a9{cY:aw}{A:a5}(c:d1 e A J Q)(a:H cY A i)(b:∀b,b∈cY->e<=b):d1 e i J Q:=by
 obtain⟨d,e,f,g,h,b,i⟩:=c;exact⟨d,e,f,g,h,(a.block J (fq.1 b).1 a3).trans b,i.a9 a a3⟩
def d1.I{A:a5}(a:d1 e A J Q)(b:H [] A i):d1 e i J Q:=a.a9 b a3
def Qt(e:Nat)(f:a5)(b g:Nat)(c:Int)(h:Ending)(d:a5):Prop:=∃a:Int,h=bg (ag a)/\0<=a/\(1<=c->a<c)/\H [b] f d/\d1 e d b (g+1)
def Qu(a:d1 e i J Q):d1 e (bX i (bs J 1)<|ag<|(Q:Int)+1) J (Q+1):=by
 obtain⟨b,c,d,e,f,g,h⟩:=a;refine⟨b,c,d,e,f,?_,h.a9 (cY:=[J]) (ap.setCell (aM a8) _) λa a=>?_⟩;.simp[World.setCell,Dr,g]
 grind
def Qv(a:Nat)(f:(a:Int)<=144115188075855872):0<=bits .xor B (a:Int) ((a:Int)/64):=by
 have c:a<2^62:=m;have d:((a:Int)/64)=((a/64:Nat):Int):=m;have e:a/64<2^62:=m;rw[d];generalize a/64=b at*;have d:=Nat.xor_lt_two_pow c e;have c:(BitVec.ofInt 64 (a:Int)).toNat=a:=a3;have d:(BitVec.ofInt 64 (b:Int)).toNat=b:=a3;show 0<=IntKind.i64.wrap ((BitVec.ofInt 64 (a:Int)^^^BitVec.ofInt 64 (b:Int)).toNat:Int);rw[BitVec.toNat_xor,c,d,fD _ m];omega
def fW(c a:Nat)(f:Int)(d:a5)(r:d1 e d c a)(R:a<=1125899906842624)(S:f<=1000000):aR aK 34 #[f6 c 0,ag f] d (Qt e d c a f):=by
 obtain⟨h,i⟩:=aq (Qu r) (ap.setCell (aM a8) _:H [c] d (bX d (bs c 1)<|ag<|(a:Int)+1));obtain⟨T,x,b,y,U,g,j:aj _⟩:=r;have V:ax d (bs c 0)=G (q x b y):=by rw[j7 d c 0 _ _ _ g];rfl
 have W:ax d (bs c 1)=G (ag a):=by rw[j7 d c 1 _ _ _ g];rfl
 have X:d.frozen? (bs c 1)=false:=by simp[World.frozen?,g]
 clear g;by_cases Y:f<1;.go_enter Ds,Dt;go_wp2;go_ret;exact⟨0,u,m,a3,i,h⟩
 by_cases s:b=0;. (have g:((b:Int)==0)=true:=by simp[s]);clear s;go_enter Ds,Dt;go_wp2;go_ret;exact⟨0,u,m,a3,i,h⟩
 have Z:((b:Int)==0)=false:=aB;by_cases z:a<b;.obtain⟨g,n,k,rfl,o,l,p,t,v⟩:=j a z;have n:c≠g:=λg=>l g.symm;go_enter Ds,Dt;go_wp2;go_ret;exact⟨k%f,u,Int.emod_nonneg _ m,λ_=>Int.emod_lt_of_pos _ m,i,h⟩
 .obtain⟨k,p⟩:=c4 (a%b);obtain⟨l,t⟩:=c4 ((a*7+3)%b);(have A:k<b:=by rw[p];exact Nat.mod_lt _ m);(have C:l<b:=by rw[t];exact Nat.mod_lt _ m);obtain⟨D,a0,n,v,a1,E,a2,a4,a6⟩:=j k A;obtain⟨a7,a9,o,w,_,_,aa,ab,ad⟩:=j l C;rw[v]at w;injection w with F;injection F with I J;subst I J v;have ae:c≠D:=λK=>E K.symm;(have L:(a:Int).tmod (b:Int)=(k:Int):=a3);(have M:((a:Int)*7+3).tmod (b:Int)=(l:Int):=a3);have N:IntKind.i64.wrap ((a:Int)*7)=(a:Int)*7:=fD _ m;have O:IntKind.i64.wrap ((a:Int)*7+3)=(a:Int)*7+3:=fD _ m;(have P:(a:Int).tdiv (b:Int)=((a/b:Nat):Int):=a8);have af:a/b<=a:=Nat.div_le_self _ _;generalize a/b=g at*;have Q:IntKind.i64.wrap (g:Int)=g:=fD _ m;clear p t;go_enter Ds,Dt;go_wp2;go_quiet(fail);(have t:0<=n*131+o*1117+(a:Int)*29+(g:Int)*53:=m);(have ah:n*131+o*1117+(a:Int)*29+(g:Int)*53<=144115188075855872:=m);clear L M N O Q P;generalize n*131+o*1117+(a:Int)*29+(g:Int)*53=N at*;obtain⟨p,rfl⟩:=dB t;go_wp2;have L:=Qv p m;generalize bits .xor B (p:Int) ((p:Int)/64)=M at*;go_ret;exact⟨M.tmod f,u,Int.tmod_nonneg _ L,λ_=>Int.tmod_lt_of_pos _ m,i.drewN _,h.I<|ap.drewN _⟩
def Qw(d:Nat)(e:a5)(a f:Nat)(g:ab)(h:Ending)(b:a5):Prop:=∃c:Int,h=bg (ag c)/\c∈g/\H [a] e b/\d1 d b a (f+1)
def lR{a0:aw}(a b:Nat)(f:ay)(l:ab)(c:a5)(g:d1 e c a b)(v:a∈a0)(o:b<=1125899906842624)(d:a6 a0 c (aI l) f)(w:0<j l)(x:j l<=1000):aR aK 96 #[f6 a 0,f] c (Qw e c a b l):=by
 obtain⟨p,q⟩:=aq g d;obtain⟨y,z,rfl,A,B⟩:=bF d;clear g d;go_enter func96,ntmps96;go_wp2_with fail;refine ad (fW a b _ _ p o m) ?_;rintro C D⟨E,rfl,r,s,h:aj _,t:aj _⟩;obtain⟨i,rfl⟩:=dB r;have k:i<j l:=m;have n:=q.a9 h a3;obtain⟨F,G,rfl,H,I,J⟩:=bY n k;clear n s;go_wp2;go_ret;exact⟨l[i],u,dV k,h,t⟩
structure fj where
 aC:ab
 bu:Int
def hR(a:List fj)(b:Nat):fj:=a.getD b ⟨[],0⟩
inductive bI(l:b3)(d0:List fj):ab->bo->Int->Prop|int{am:ab}{n:Int}(IE: -999<=n)(g8:n<=999):bI l d0 am (.mk 0 n []) 0|var{am:ab}{av:Nat}(b2:av<j am):bI l d0 am (.mk 12 av []) am[av]|qa{am:ab}{af:Int}{a b:bo}(b2:1<=af/\af<=4)(mj:bI l d0 am a 0)(gl:bI l d0 am b 0):bI l d0 am (.mk af 0 [a,b]) 0|print{am:ab}{a:bo}(mj:bI l d0 am a 0):bI l d0 am (.mk 5 0 [a]) 0|cJ{am:ab}{c:Int}{a7:List bo}(ie:0<eC l c)(cV:j a7=j (bh l c))(ef:∀av(g8:av<j a7)(oe:av<j (bh l c)),bI l d0 am a7[av] (bh l c)[av]):bI l d0 am (.mk 6 c a7) (eC l c)|xz{am:ab}{a b:bo}{t cG:Int}(mV:0<=t)(mj:bI l d0 am a t)(gl:bI l d0 (am++[t]) b cG):bI l d0 am (.mk 13 0 [a,b]) cG|iff{am:ab}{a b c:bo}{t:Int}(mj:bI l d0 am a 0)(gl:bI l d0 am b t)(ie:bI l d0 am c t):bI l d0 am (.mk 7 0 [a,b,c]) t|xA{am:ab}{a:bo}{a7:List bo}{d t:Int}(ll:bx l d≠[])(mj:bI l d0 am a d)(cV:j a7=j (bx l d))(ef:∀av(g8:av<j a7)(oe:av<j (bx l d)),bI l d0 (am++bh l (bx l d)[av]) a7[av] t):bI l d0 am (.mk 8 d<|a::a7) t|call{am:ab}{f:Nat}{a7:List bo}(eh:f<j d0)(cV:j a7=(hR d0 f).aC.length)(ef:∀av(g8:av<j a7)(oe:av<(hR d0 f).aC.length),bI l d0 am a7[av] (hR d0 f).aC[av]):bI l d0 am (.mk 9 f a7) (hR d0 f).bu|close{am:ab}{f:Nat}{a7:List bo}{t:Int}(eh:f<j d0)(cV:j a7+1=(hR d0 f).aC.length)(ef:∀av(g8:av<j a7)(oe:av<(hR d0 f).aC.length),bI l d0 am a7[av] (hR d0 f).aC[av])(mV:t=gH l ((hR d0 f).aC.getD (j a7) 0) (hR d0 f).bu)(IE:0<t):bI l d0 am (.mk 10 f a7) t|apply{am:ab}{a b:bo}{t:Int}(mV:ed l t=true)(mj:bI l d0 am a t)(gl:bI l d0 am b (dQ l (t - 1).toNat).cC):bI l d0 am (.mk 11 0 [a,b]) (dQ l (t - 1).toNat).d3
structure dT(l:b3):Prop where
 f9:j l=3\/j l=4
 bound:dg l (j l)<=1073741824
 ei:bx l 0=[]
 Qx:ed l 0=false
 e2:bx l 1=[0,1]
 jG:ed l 1=false
 tD:bh l 0=[]
 r8:bh l 1=[0,1]
 hp:eC l 0=1
 jX:eC l 1=1
 fM:bx l 2=[]
 vs:ed l 2=true
 iQ:(dQ l 1).cC=0/\(dQ l 1).d3=0
 dG:bx l 3=[2,3]
 tE:ed l 3=false
 tF:bh l 2=[]
 mW:bh l 3=[3,0,3]
 qb:eC l 2=3
 sk:eC l 3=3
 four:(j l=3/\ed l 4=false/\bx l 4=[])\/(j l=4/\((bx l 4=[4]/\ed l 4=false/\bh l 4=[1,3]/\eC l 4=4)\/(bx l 4=[4,5,6]/\ed l 4=false/\bh l 4=[1,1,0]/\bh l 5=[0]/\bh l 6=[3]/\eC l 4=4/\eC l 5=4/\eC l 6=4)\/(bx l 4=[]/\ed l 4=true/\((dQ l 3).cC=1/\(dQ l 3).d3=0\/(dQ l 3).cC=0/\(dQ l 3).d3=1))))
 gH:∀f t,gH l f t= -1\/((f=0\/f=1)/\(t=0\/t=1)/\¬(f=1/\t=1))
def dList:nw:=⟨0,0,[[],[0,1]]⟩
def sl:nw:=⟨0,0,[]⟩
def sn:nw:=⟨0,0,[[],[3,0,3]]⟩
def jH(a:b3):b3:=[dList,sl,sn]++a
def hS(a:Nat):nw:=match a with|0=>⟨0,0,[[1,3]]⟩|1=>⟨1,0,[]⟩|2=>⟨0,0,[[1,1,0],[0],[3]]⟩|_=>⟨0,1,[]⟩
def J0(c:b3)(h:c=[]\/∃i,c=[i])(d e:Int)(k:∀b,c=[b]->b.cons=[]->(b.cC=1/\b.d3=0\/b.cC=0/\b.d3=1)):gH (jH c) d e= -1\/((d=0\/d=1)/\(e=0\/e=1)/\¬(d=1/\e=1)):=by
 rcases Pj (jH c) d e with j|⟨a,f,_,g⟩;.exact aM j
 .right;rcases h with rfl|⟨l,rfl⟩;(.simp[jH]at f;(have b:a=0\/a=1\/a=2:=m);rcases b with rfl|rfl|rfl<;>simp[f8,dQ,jH,dList,sl,sn]at g;omega);.simp[jH]at f;(have b:a=0\/a=1\/a=2\/a=3:=m);rcases b with rfl|rfl|rfl|rfl<;>simp[f8,dQ,jH,dList,sl,sn]at g;(.omega);grind
theorem dT.Qy:dT (jH []):=⟨bi,bi,bi,bi,bi,bi,bi,bi,bi,bi,bi,bi,bi,bi,bi,bi,bi,bi,bi,bi,λa b=>J0 [] (aM u) a b a3⟩
theorem dT.Qz(a:Nat)(i:a<4):dT (jH [hS a]):=by
 have b:a=0\/a=1\/a=2\/a=3:=m;rcases b with rfl|rfl|rfl|rfl;all_goals refine⟨bi,bi,bi,bi,bi,bi,bi,bi,bi,bi,bi,bi,bi,bi,bi,bi,bi,bi,bi,bi,λc d=>J0 _ (bj ⟨_,u⟩) c d (λe f g=>?_)⟩;have h:e=_:=(List.cons.inj f).1.symm;subst h;revert g;decide
structure h5(l:b3)(d0:List fj):Prop where
 f9:1<=j d0/\j d0<=4
 so:∀av(b2:av<j d0),d0[av].aC.length<=3
 xB:∀av(b2:av<j d0),∀t∈d0[av].aC,t=0\/t=1\/t=2\/t=3
 aV:∀av(b2:av<j d0),d0[av].bu=0\/d0[av].bu=1\/d0[av].bu=3
 Du:∀av(b2:av<j d0),0<gH l (d0[av].aC.getD (d0[av].aC.length - 1) 0) d0[av].bu->∀t∈d0[av].aC,t=0\/t=1\/t=3
def p7(c:b3)(a:List fj)(d:Int)(b:Nat):Bool:=decide (0<(hR a b).aC.length)&&gH c ((hR a b).aC.getD ((hR a b).aC.length - 1) 0) (hR a b).bu==d
def kS(b:b3)(a:List fj)(c:Int):ab:=((aQ<|j a).filter<|p7 b a c).map λ(a:Nat)=>(a:Int)
def om(a:b3)(b:List fj)(c:Int)(d:Nat):ab:=((aQ d).filter<|p7 a b c).map λ(a:Nat)=>(a:Int)
theorem J1(b:b3)(c:List fj)(d:Int)(a:Nat):j (om b c d a)<=a:=by grind[List.length_filter_le,p7,aQ,om]
def QA{a:List fj}(b:p7 O a N e=true):om O a N (e+1)=om O a N e++[(e:Int)]:=by grind[om,List.range_succ]
def J2{a:List fj}(b:p7 O a N e=false):om O a N (e+1)=om O a N e:=by grind[om,List.range_succ]
def QB{l:b3}{d0:List fj}{t aS:Int}(a:aS∈kS l d0 t):∃a:Nat,a<j d0/\aS=a/\p7 l d0 t a=true:=by grind[kS]
def ev(b:b3)(c:List fj)(d:ab)(a:Int):Bool:=!ed b a||(decide (0<j (kS b c a))||dN d a)
mutual def ul(a:Nat):cd->Prop|.mk b _=>rq a b def rq(a:Nat):bC->Prop|[]=>True|b::c=>w6 a b/\rq a c def w6(b:Nat):b7->Prop|.mk c _ _ a d=>(ez c=true->a≠[]/\0<=a.getD 0 0/\a.getD 0 0<=b)/\pC b d def pC(a:Nat):dt->Prop|[]=>True|b::c=>ul a b/\pC a c end
section
variable{cY:Nat}
def Tt(a:cd):ul cY a=rq cY a.ao:=by
 cases a;rw[ul];rfl
def Tu(a:b7):w6 cY a=((ez a.af=true->a.ak≠[]/\0<=bR a/\bR a<=cY)/\pC cY a.a7):=by
 cases a;rw[w6];rfl
theorem KY:∀{a:bC},rq cY a->∀{b:Nat}(c:b<j a),w6 cY a[b]|a::b,c,0,_=>by grind[rq]|b::c,a,d+1,e=>by rw[rq]at a;exact KY a.2 a3
theorem KZ:∀{a:dt},pC cY a->∀{b:Nat}(c:b<j a),ul cY a[b]|a::b,c,0,_=>by grind[pC]|b::c,a,d+1,e=>by rw[pC]at a;exact KZ a.2 a3
end
def Tv{a:List ab}(d:∀b∈a,j b<=1000):j (a.headD [])<=1000/\∀c∈a.tail,j c<=1000:=by cases a with|nil=>simp|cons e f=>grind
mutual theorem L0{e:aH}(g:∀c,j (bh e.ai c)<=1000)(c:Nat):∀(d:cd)(f:ab),0<=dO e f d->j f+1001*bL d<=c->ul c d|.mk e i,f,d,k=>by rw[ul];refine L1 g c e f (λc=>?_) (by grind[bL]);rw[dO,c]at d;simp at d theorem L1{e:aH}(g:∀c,j (bh e.ai c)<=1000)(c:Nat):∀(d:bC)(f:ab),dI e f d≠F->j f+1001*ci d<=c->rq c d|[],d,_,_=>by grind[rq]|f::k,i,d,l=>by rw[dI]at d;rw[ci]at l;have l:¬cU e i f<0:=λe=>d<|bB e;rw[be l]at d;rw[rq];refine⟨Tw g c f i m m,L1 g c k _ d ?_⟩;(have c:1<=c8 f:=by rw[hb];omega);split;(.simp;omega);.omega theorem Tw{e:aH}(f:∀c,j (bh e.ai c)<=1000)(c:Nat):∀(d:b7)(g:ab),0<=cU e g d->j g+1001*c8 d<=c->w6 c d|.mk af an b1 ak a7,am,b2,i=>by rw[w6];refine⟨λe=>?_,?_⟩;(.have d:=xv (s:= .mk af an b1 ak a7) e b2;have e:=d.1;obtain⟨g,k⟩:=fr d.2.1;have d:bR (.mk af an b1 ak a7)=aP ak 0 0:=rfl;rw[d]at g k;simp only[cu,b7.mk.injEq]at e;refine⟨?_,g,m⟩;rw[e.2.2.2.1];simp);.by_cases d:a7=[];(.grind[pC]);.have d:=tx b2;rw[c8]at i;by_cases e:af=7;(.exact Eu f c a7 _ _ am (d.1 e).2 a8 m);.by_cases e:af=8;(.exact Eu f c a7 _ _ am (d.2 e).2.2 a3 m);. exact Qi theorem Eu{e:aH}(f:∀c,j (bh e.ai c)<=1000)(c:Nat):∀(d:dt)(g:List ab)(k:Option Int)(i:ab),0<=f3 e i d g k->(∀e∈g,j e<=1000)->j i+1001*dR d+1000<=c->pC c d|[],d,e,g,_,_,_=>by grind[pC]|e::g,d,o,i,k,l,n=>by have d:=q7 k;obtain⟨o,k⟩:=Tv l;rw[dR]at n;rw[pC];exact⟨L0 f c e _ d.1 a3,Eu f c g _ _ i d.2 k m⟩end
mutual def hk(a:b3)(b c:Nat):cd->Prop|.mk d e=>oE a b c d e def oE(b:b3)(c a:Nat):bC->Int->Prop|[],d=>0<=d/\d<a|d::e,f=>qs b c a d/\oE b c (a+1) e f def qs(a:b3)(d e:Nat):b7->Prop|.mk b c _ h f=>(∀g∈h,0<=g/\g<e)/\(b=9->0<=c/\c<d)/\eE b=false/\(b=8->j f<=j (bx a c))/\rr a d e f (if b=8 then(bx a c).map (bh a)else [])def rr(a:b3)(b c:Nat):dt->List ab->Prop|[],_=>True|e::f,d=>hk a b (c+j (d.headD [])) e/\rr a b c f d.tail end
def AF(b:b3)(c d:Nat)(a:cd):hk b c d a=oE b c d a.ao a.aV:=by
 cases a;rw[hk];rfl
def um(b:b3)(c d:Nat)(a:b7):qs b c d a=((∀e∈a.ak,0<=e/\e<d)/\(a.af=9->0<=a.an/\a.an<c)/\eE a.af=false/\(a.af=8->j a.a7<=j (bx b a.an))/\rr b c d a.a7 (if a.af=8 then(bx b a.an).map (bh b)else [])):=by
 cases a;rw[qs];rfl
theorem Ey:∀{a:bC}{b:Nat}{c:Int},oE O e b a c->∀{av:Nat}(d:av<j a),qs O e (b+av) a[av]|a::b,c,d,e,0,_=>by grind[oE]|d::e,b,f,c,a+1,g=>by rw[oE]at c;have:=Ey c.2 (av:=a) a3;rwa [show b+1+a=b+(a+1)by omega]at this
theorem Ez:∀{b:bC}{c:Nat}{a:Int},oE O e c b a->0<=a/\a<c+j b|[],a,b,c=>by grind[oE]|b::c,d,e,a=>by rw[oE]at a;have:=Ez a.2;simp only[gI];omega
theorem AG:∀{a:dt}{b:List ab},rr O e J a b->∀{av:Nat}(c:av<j a),hk O e (J+j (b.getD av [])) a[av]|b::c,aD,a,0,_=>(by rw[rr]at a;have:=a.1;exact EA)|c::d,aD,a,b+1,e=>by rw[rr]at a;have:=AG a.2 (av:=b) a3;exact EA
def nf(b:aw)(c:a5)(d:Nat)(e:Ending)(f:a5):Prop:=∃a:ab,j a<=d/\j3 b c 3 1 (b6 a) e f
def yj(b:aw)(c:a5)(d:Nat)(e:Ending)(f:a5):Prop:=∃a:ab,j a<=d/\xb b c (aI a) e f
theorem nf.bt{a:Ending}(b:nf w i e a P):yj w i e a P:=by
 obtain⟨a,c,d⟩:=b;exact⟨a,c,d.bt⟩
def m4(a b:Nat):ab:=(aQ b).map λb=>((a+b:Nat):Int)
theorem qt(b a:Nat):j (m4 b a)=a:=by simp[m4]
def TG(a b:Nat):m4 a (b+1)=m4 a b++[((a+b:Nat):Int)]:=by simp[m4,tq]
theorem fs.fR{a:aH}(f:fs M a)(b:br)(c:Int)(d:ab)(e:Int):Go.Proofs.YtfekcilkpafpjaaGreat.fR M b c d e=Go.Proofs.YtfekcilkpafpjaaGreat.fR a b c d e:=by
 unfold Go.Proofs.YtfekcilkpafpjaaGreat.fR;simp only[f.d]
mutual theorem fs.fx{n o:aH}(L:fs n o)(g:ab):∀(p:cd)(q:br)(r:Nat),Go.Proofs.YtfekcilkpafpjaaGreat.fx n g q r p=Go.Proofs.YtfekcilkpafpjaaGreat.fx o g q r p|.mk M R,N,S=>by rw[Go.Proofs.YtfekcilkpafpjaaGreat.fx,Go.Proofs.YtfekcilkpafpjaaGreat.fx,fs.eu L g M N]theorem fs.eu{s h:aH}(t:fs s h)(b:ab):∀(u:bC)(v:br),Go.Proofs.YtfekcilkpafpjaaGreat.eu s b v u=Go.Proofs.YtfekcilkpafpjaaGreat.eu h b v u|[],T=>by rw[Go.Proofs.YtfekcilkpafpjaaGreat.eu,Go.Proofs.YtfekcilkpafpjaaGreat.eu]|w::O,y=>by rw[Go.Proofs.YtfekcilkpafpjaaGreat.eu,Go.Proofs.YtfekcilkpafpjaaGreat.eu,fs.fU t b w y];cases Go.Proofs.YtfekcilkpafpjaaGreat.fU h b y w with|none=>rfl|some a=>exact fs.eu t b O a theorem fs.fU{x z:aH}(c:fs x z)(i:ab):∀(A:b7)(B:br),Go.Proofs.YtfekcilkpafpjaaGreat.fU x i B A=Go.Proofs.YtfekcilkpafpjaaGreat.fU z i B A|.mk U V W X P,Y=>by rw[Go.Proofs.YtfekcilkpafpjaaGreat.fU,Go.Proofs.YtfekcilkpafpjaaGreat.fU,c.hO,c.hD,c.cU,fs.fV c i P,c.d]theorem fs.fV{C d:aH}(e:fs C d)(a:ab):∀(D:dt)(E:br)(F:Int)(G H:ab)(I:Option (ab×ab)),Go.Proofs.YtfekcilkpafpjaaGreat.fV C a E F G D H I=Go.Proofs.YtfekcilkpafpjaaGreat.fV d a E F G D H I|[],Z,a0,a1,a2,a3=>by rw[Go.Proofs.YtfekcilkpafpjaaGreat.fV,Go.Proofs.YtfekcilkpafpjaaGreat.fV]|J::K,f,k,l,m,Q=>by rw[Go.Proofs.YtfekcilkpafpjaaGreat.fV,Go.Proofs.YtfekcilkpafpjaaGreat.fV,e.fR,fs.fx e a J];cases Go.Proofs.YtfekcilkpafpjaaGreat.fx d a (Go.Proofs.YtfekcilkpafpjaaGreat.fR d f k l<|m.headD 0) (j f.am) J with|none=>rfl|some a4=>cases Q with|none=>exact fs.fV e a K f k l m.tail _|some a5=>simp only[];split;(. exact fs.fV e a K f k l m.tail _);. rfl end
theorem Hc(c:Int ->Nat)(a:Int):∀(d:ab),d.Pairwise (· < ·)->(d.flatMap λg=>List.replicate (c g) g).count a=if a∈d then c a else 0|[],_=>a8|b::h,f=>by rw[List.pairwise_cons]at f;rw[List.flatMap_cons,List.count_append,Hc c a h f.2,List.count_replicate];by_cases cT:b=a;(. subst cT;have:b∉h:=λc=>absurd (f.1 b c)<|Int.lt_irrefl _;simp[this]);. have c:¬a=b:=λd=>cT d.symm;have d:(b==a)=false:=xn;simp[c,d]
def OJ{a:bC}(b:N∉di a):dJ a N=0:=by
 have c:∀d∈a,bR d≠N:=λe f g=>b<|sg.2 ⟨e,f,g⟩;clear b;induction a with|nil=>rfl|cons h l i=>rw[sf,i (λj k=>c j<|gb _ k),fZ,be (c h a8)];rfl
def Hd(a:bC)(b:Int):(lO a).count b=(dJ a b).toNat:=by
 rw[lO,Hc (λc=>(dJ a c).toNat) b _ (xt a)];split;. rfl
 . rename_i a;rw[OJ a];rfl
def He(a:bC)(b:Int):(mo a).count b=(-(dJ a b)).toNat:=by
 rw[mo,Hc (λc=>(-(dJ a c)).toNat) b _ (xt a)];split;. rfl
 . rename_i a;rw[OJ a];rfl
def OK{a:bC}(mD:∀e∈a,ez e.af=true)(b2:0<dJ a N):∃c∈a,bR c=N/\c.af=14:=by induction a with|nil=>simp[vn]at b2|cons b i OL=>by_cases d:bR b=N/\b.af=14;(. exact⟨b,a8,d⟩);. (have:fZ b N<=0:=by unfold fZ;split;(. rename_i f;rw[be (λg=>d ⟨f,g⟩)];omega);. omega);exact a0F
def Hf{b:bC}(mD:∀f∈b,ez f.af=true)(b2:dJ b N<0):∃d∈b,bR d=N/\d.af=15:=by induction b with|nil=>simp[vn]at b2|cons a i OL=>by_cases e:bR a=N/\a.af=15;(. exact⟨a,a8,e⟩);. (have:0<=fZ a N:=by unfold fZ;split;(. rename_i g;rcases p3.1 (mD a a8)with c|c;(. rw[bB c];omega);. exact absurd ⟨g,c⟩ e);. omega);exact a0F
def z6(b:ab):Prop:=∀a:Nat,a<j b ->aP b a 0<a
theorem Hg{b:ab}(e:z6 b):∀(f:Nat)(a:Int),0<=a ->a<j b ->a<f ->(gi L X b f a=true↔lj L X b a)|0,n,o,_,p=>m|g+1,d,h,r,s=>by rw[gi];have q:=e (bw d) m;split;(. rename_i c;split;(. rename_i t;refine⟨λi=>(by cases i),λk=>?_⟩;cases k with|ae _ l=>omega|aG l=>rw[l]at c;cases c.2|cz i _=>omega);. rename_i t;rw[Hg e g _ m m m];refine⟨λi=> .cz m i,λk=>?_⟩;cases k with|ae _ l=>omega|aG l=>rw[l]at c;cases c.2|cz _ i=>exact i);. rename_i c;refine⟨λ_=>?_,λ_=>u⟩;by_cases i:aP X (bw d) 0<1;(. refine .aG ?_;cases k:dN L d with|true=>rfl|false=>exact absurd ⟨i,k⟩ c);. exact .ae h m
def lj.up{a b:ab}(d:∀c:Nat,aP X c 0<=a.getD c 0)(c:lj L X b N):lj L a b N:=c.mono λa b c=> .ae b (by have:=d<|bw a;omega)
def mf(a b:ab):bC ->ab ->Option ab|[],c=>G c|c::d,e=>match oj a b e c with|F=>F|G c=>mf a b d c
theorem OM(a b:ab):∀(c d:bC)(e:ab),mf a b (c++d) e=(match mf a b c e with|F=>F|G f=>mf a b d f)|[],l,m=>rfl|g::h,i,k=>by rw[j0,mf,mf];cases oj a b k g with|none=>rfl|some j=>exact OM a b h i j
def a0G{b:b7}(c:ez b.af=true):fU M L W b=(oj L W.cz W.ae b).map λi=>{W with ae:=i}:=by
 obtain⟨k,d,e,a,f⟩:=b;have g:=xw c;have h:=p3.1 c;simp only[b7.af]at g h;rw[fU];simp only[g,vq,nC];rcases h with rfl|rfl;. rw[show oj L W.cz W.ae (.mk 14 d e a f)=if gi L W.ae W.cz (j W.ae) (aP a 0 0)then G (W.ae.set (aP a 0 0).toNat<|aP W.ae (aP a 0 0).toNat 0+1)else F from bB u];simp only[mn];split<;>rfl
 . rw[show oj L W.cz W.ae (.mk 15 d e a f)=d9 W.ae (aP a 0 0)from be (by show¬(15:Int)=14;decide)];simp only[show¬((15:Int)=14)by decide,nC,mn];cases d9 W.ae (aP a 0 0)<;>rfl
theorem z7:∀(b:bC)(a:br),(∀f∈b,ez f.af=true)->eu M L a b=(mf L a.cz b a.ae).map λg=>{a with ae:=g}|[],k,_=>by rw[eu];rfl|c::h,d,e=>by rw[eu,a0G (e c a8),mf];cases oj L d.cz d.ae c with|none=>rfl|some l=>simp only[zq];rw[z7 h _ λi j=>e i<|gb _ j]
theorem Hh:∀(a b:bC)(c:br),eu M L c (a++b)=(match eu M L c a with|F=>F|G d=>eu M L d b)|[],k,l=>by rw[j1,eu]|e::f,g,h=>by rw[j0,eu,eu];cases fU M L h e with|none=>rfl|some i=>exact Hh f g i
def Hi(a:b7)(b:Nat)(c:0<=bR a):fZ a b=if(bR a).toNat=b then(if a.af=14 then 1 else -1)else 0:=by
 unfold fZ;by_cases c:bR a=(b:Int);. have d:(bR a).toNat=b:=m;rw[bB c,bB d]
 . have d:¬(bR a).toNat=b:=m;rw[be c,be d]
theorem Hj(s:z6 X):∀(k:bC)(h t:ab),j h=j X ->(∀l∈k,ez l.af=true/\0<=bR l/\bR l<j h)->mf L X k h=G t ->Qe L X k h t|[],P,Q,_,_,v=>by rw[mf]at v;cases v;exact⟨u,λa _=>by rw[vn];omega,a8,a8⟩|a::w,c,D,E,n,e=>by rw[mf]at e;obtain⟨x,i,R⟩:=n a a8;have F:(bR a).toNat<j c:=m;cases b:oj L X c a with|none=>rw[b]at e;cases e|some g=>rw[b]at e;simp only[]at e;(have H:g=c.set (bR a).toNat (aP c (bR a).toNat 0+fZ a (bR a))/\(a.af=14 ->lj L c X (bR a))/\(a.af=15 ->1<=aP c (bR a).toNat 0):=by unfold oj at b;rcases p3.1 x with d|d;(. rw[bB d]at b;split at b;(. rename_i f;cases b;refine⟨by rw[fZ,bB u,bB d],λ_=>(Hg s _ _ i m m).1 f,λf=>m⟩);. cases b);. rw[be m]at b;unfold d9 at b;split at b;(. cases b);. rename_i f;cases b;refine⟨by rw[fZ,bB u,be m];rfl,λd=>m,λ_=>m⟩);obtain⟨y,z,I⟩:=H;(have o:j g=j c:=by rw[y];simp);(have p:∀q:Nat,g.getD q 0=aP c q 0+fZ a q:=by intro f;rw[y,zv F,Hi a f i];by_cases d:(bR a).toNat=f;(. rw[bB d,bB d,<- d];unfold fZ;rw[bB u]);. rw[be d,be d];omega);have f:=Hj s w g D (o.trans E) (λJ K=>by have:=n J<|gb _ K;rw[o];exact this) e;(have M:∀A,lj L g X A ->lj L c X A:=by intro d d;refine d.mono λr B d=>?_;rw[p]at d;rcases p3.1 x with C|C;(. by_cases N:(bR a).toNat=bw r;(. rw[<- show bR a=r by omega];exact z C);. refine .ae B ?_;rw[Hi a _ i,be N]at d;omega);. refine .ae B ?_;rw[Hi a _ i]at d;split at d;(. rw[be m]at d;omega);. omega);refine⟨f.f9.trans o,λN S=>?_,λd r B=>?_,λd r C=>?_⟩;(. rw[f.dA N m,p,sf];omega);(. rcases ek.1 r with rfl|O;(. exact z B);. exact M _<|f.dup d O B);. rcases ek.1 r with rfl|O;(. by_cases g:dJ w (bR d)<0;(. obtain⟨h,k,l,o⟩:=Hf (λq r=>(n q<|gb _ r).1) g;have:=f.drop h k o;rwa [l]at this);. have b:=f.dA (bR d).toNat m;rw[b,p,show(((bR d).toNat:Nat):Int)=bR d by omega];have b:=I C;(have b:fZ d (bR d)= -1:=by unfold fZ;rw[bB u,be m]);omega);. exact f.drop d O C
theorem ON{aG:ab}(h:z6 L):∀(c a:ab),j a=j L ->(∀b∈c,0<=b/\b<j a/\lj aG a L b)->∃f,mf aG L (c.map<|cu 14) a=G f/\j f=j a/\∀b:Nat,b<j a ->f.getD b 0=aP a b 0+c.count (b:Int)|[],a,_,_=>⟨a,u,u,λa _=>a8⟩|d::f,a,i,c=>by obtain⟨b,l,k⟩:=c d a8;(have p1:oj aG L a (cu 14 d)=G (a.set (bw d)<|aP a (bw d) 0+1):=by unfold oj;rw[bB (show(cu 14 d).af=14 from u),bB];(. rfl);. exact(Hg h _ _ b (by show d<_;omega) (by show d<_;omega)).2 k);have g:∀b:Nat,(a.set (bw d)<|aP a (bw d) 0+1).getD b 0=aP a b 0+if bw d=b then 1 else 0:=λb=>a0H;(obtain⟨o,oe,ss,po⟩:=ON h f (a.set (bw d)<|aP a (bw d) 0+1) (by simpa using i) λb k=>by obtain⟨l,n,p⟩:=c b (gb _ k);refine⟨l,by simpa using n,p.up λb=>?_⟩;rw[g];split<;>omega);exact a0I
theorem OO{aG cz:ab}:∀(c b:ab),(∀p∈c,0<=p/\p<j b)->(∀q∈c,(c.count q:Int)<=aP b (bw q) 0)->∃k,mf aG cz (c.map<|cu 15) b=G k/\j k=j b/\∀f:Nat,f<j b ->k.getD f 0=aP b f 0 - c.count (f:Int)|[],v,_,_=>⟨v,u,u,λz _=>a8⟩|d::w,a,l,r=>by obtain⟨A,B⟩:=l d a8;have s:=r d a8;rw[OP]at s;simp only[BEq.rfl,mn]at s;(have p1:oj aG cz a (cu 15 d)=G (a.set (bw d)<|aP a (bw d) 0 - 1):=by unfold oj;rw[be (show¬(cu 15 d).af=14 by show¬(15:Int)=14;decide)];unfold d9;rw[be (by show¬aP a (bw d) 0<1;omega)];rfl);have g:∀n:Nat,(a.set (bw d)<|aP a (bw d) 0 - 1).getD n 0=aP a n 0 - if bw d=n then 1 else 0:=λC=>a0H;(obtain⟨o,oe,ss,po⟩:=OO (aG:=aG) (cz:=cz) w (a.set (bw d)<|aP a (bw d) 0 - 1) (λx y=>by obtain⟨h,i⟩:=l x (gb _ y);exact⟨h,by simpa using i⟩) λh t=>by obtain⟨D,E⟩:=l h (gb _ t);have i:=r h<|gb _ t;rw[OP]at i;rw[g];by_cases cT:d=h;(. subst cT;simp only[BEq.rfl,mn]at i⊢;omega);. rw[be m];have b:(d==h)=false:=xn;rw[b]at i;simp only[vq,nC,jW]at i;omega);exact a0I
def a0J(i:z6 X){a:bC}{b f:ab}(k:j b=j X)(g:∀h∈a,ez h.af=true/\0<=bR h/\bR h<j b)(n:mf L X a b=G f):mf L X (eP a) b=G f:=by
 have c:=Hj i a b f k g n;have d:∀o∈a,ez o.af=true:=λp q=>(g p q).1;have e:∀l∈di a,0<=l/\l<j b:=λu r=>by obtain⟨s,t,rfl⟩:=sg.1 r;exact(g s t).2
 have o:∀f,f∈lO a ->f∈di a/\0<dJ a f:=by intro f g;have h:0<(lO a).count f:=List.count_pos_iff.2 g;rw[Hd]at h;refine⟨?_,m⟩;obtain⟨g,h,l,_⟩:=OK d (show 0<dJ a f by omega);exact sg.2 ⟨g,h,l⟩
 have g:∀f,f∈mo a ->f∈di a/\dJ a f<0:=by intro f h;have l:0<(mo a).count f:=List.count_pos_iff.2 h;rw[He]at l;refine⟨?_,m⟩;obtain⟨h,l,n,_⟩:=Hf d (show dJ a f<0 by omega);exact sg.2 ⟨h,l,n⟩
 obtain⟨p,q,h,l⟩:=ON (aG:=L) i (lO a) b k λf r=>by obtain⟨n,s⟩:=o f r;obtain⟨r,t,u,v⟩:=OK d s;refine⟨(e f n).1,(e f n).2,?_⟩;rw[<- u];exact c.dup r t v
 obtain⟨b,i,k,n⟩:=OO (aG:=L) (cz:=X) (mo a) p (λb f=>by rw[h];exact e b (g b f).1) λb f=>by obtain⟨o,r⟩:=g b f;obtain⟨f,f⟩:=e b o;obtain⟨f,o,s,t⟩:=Hf d r;have r:=c.drop f o t;rw[s]at r;have o:=c.dA (bw b) m;have f:=l (bw b) m;rw[show((bw b:Nat):Int)=b by omega]at o f;rw[Hd]at f;rw[He];omega
 rw[eP,OM,q];simp only[];rw[i];congr 1;refine xh (by rw[k,h,c.f9]) λa f g=>?_;have b:=n a m;have d:=l a m;have e:=c.dA a m;rw[He]at b;rw[Hd]at d;simp only[gS,hm f,hm g,ve]at b e;rw[b,e];simp only[gS]at d⊢;omega
def fy.pd{g:c9}{c:List cp}(b:fy M W g c):z6 W.cz:=by
 intro a d;rw[b.oi]at d;rw[b.cz a d];cases e:c.find? (·.has a)with|none=>simp only[];omega|some f=>have j:=b.arm f<|CD e;have h:f.has (a:Int)=true:=CE (p:=λ(i:cp)=>i.has (a:Int)) e;have k:=cp.tv.1 h;simp only[];omega
def a0K(g:dU M=true){a:b7}{c:br}{f:c9}{d:List cp}(l:fy M W f d)(e:dp M.ai W.am=true)(h:0<=cU M W.am a)(i:fU M L W a=G c):(∃m,fy M c m d)/\c.am=(if gr a.af then W.am++[cU M W.am a]else W.am)/\dp M.ai c.am=true:=by
 have b:=zA g L a W f d l e h;have j:=b.2 c i;rw[i]at b;refine⟨?_,j,?_⟩;. cases k:jk M L d f a with|none=>rw[k]at b;exact b.1.elim|some n=>rw[k]at b;exact⟨n,b.1⟩
 . rw[j];split;(. exact zp e<|(vf g a W.am e).jh h);. exact e
def OQ(b:ab){a:bC}{c:br}{e:c9}{f:List cp}(b2:fy M W e f)(hv:r5 M W.am a)(d:eu M b W a=G c):eu M b W (eP a)=G c:=by
 rw[z7 a W λb c=>(hv b c).1]at d;obtain⟨e,b,c⟩:=vk.1 d;rw[z7 _ W (zB a),a0J b2.pd (by rw[b2.ml,b2.oi]) (λs Ct=>?_) b];. exact qy G c
 . exact a0L
mutual theorem Hk{n:aH}(aB:dU n=true)(M:ab):∀(V:cd)(B:br)(aC:c9)(aD:List cp)(ai:Nat)(aj:br),fy n B aC aD ->dp n.ai B.am=true ->0<=dO n B.am V ->fx n M B ai V=G aj ->fx n M B ai (eX V)=G aj|.mk W b3,N,aE,aF,b4,b5,aG,aI,ak,E=>by(have b:dI n N.am W≠F:=by intro a;rw[dO,a]at ak;simp at ak);rw[fx]at E;cases a:eu n M N W with|none=>rw[a]at E;cases E|some d=>rw[a]at E;have:=Hl aB M W [] N N aE aF d aG aI Dd (by rw[eu]) b a;rw[eX,fx,this];exact E theorem Hl{a:aH}(O:dU a=true)(g:ab):∀(X Y:bC)(q al:br)(aJ:c9)(aK:List cp)(an:br),fy a q aJ aK ->dp a.ai q.am=true ->r5 a q.am Y ->eu a g q Y=G al ->dI a q.am X≠F ->eu a g al X=G an ->eu a g q (fz X Y)=G an|[],b6,b8,b9,ba,bb,bc,aL,bd,aN,aS,_,ao=>by rw[eu]at ao;cases ao;rw[fz];exact OQ g aL aN aS|v::ap,H,o,r,Z,P,aq,b2,ar,hv,w,y,t=>by(have f:r.am=o.am:=by rw[z7 H o λb d=>(hv b d).1]at w;obtain⟨d,_,b⟩:=vk.1 w;rw[<- b]);rw[dI]at y;have k:¬cU a o.am v<0:=λl=>y<|bB l;rw[be k]at y;rw[eu]at t;cases b:fU a g r v with|none=>rw[b]at t;cases t|some d=>rw[b]at t;simp only[]at t;rw[fz];cases i:ez v.af with|true=>simp only[mn];rw[xw i]at y;refine Hl O g ap (H++[v]) o d Z P aq b2 ar (λp x=>?_) ?_ y t;(. rcases cI.1 x with e|e;(. exact hv p e);. simp at e;subst e;exact⟨i,m⟩);. rw[Hh,w];simp only[];rw[eu,b];simp only[];rw[eu]|false=>simp only[vq,nC];have l:eu a g o (eP H)=G r:=OQ g b2 hv w;(have p:∃x,fy a r x P:=by rw[z7 H o λe i=>(hv e i).1]at w;obtain⟨e,i,k⟩:=vk.1 w;have z:=Hj b2.pd H o.ae e (by rw[b2.ml,b2.oi]) (λs Ct=>a0L) i;refine⟨{Z with ae:=e,bn:=Z.bn},?_⟩;rw[<- k];have:=b2.set e o.bK z.f9 u;rwa [b2.oh]at this⊢);obtain⟨z,e⟩:=p;(have i:dp a.ai r.am=true:=by rw[f];exact ar);(have k:0<=cU a r.am v:=by rw[f];omega);obtain⟨⟨A,C⟩,D,I⟩:=a0K O e i k b;have J:=a0M O g v r z P d e i k b;rw[Hh,l];simp only[];rw[eu,J];simp only[];refine Hl O g ap [] d d A P aq C I Dd (by rw[eu]) ?_ t;rw[D,f];exact y theorem a0M{i:aH}(aO:dU i=true)(C:ab):∀(a0:b7)(I:br)(aQ:c9)(aR:List cp)(au:br),fy i I aQ aR ->dp i.ai I.am=true ->0<=cU i I.am a0 ->fU i C I a0=G au ->fU i C I (jl a0)=G au|.mk f av bf Q a1,z,aT,aU,bi,aV,aW,R,d=>by have e:=Iy _ _ R;rw[jl]at e⊢;rw[fU]at d⊢;rw[e];by_cases q8:f=7\/f=8;(. have CX:=tx R;have l:=vi R;have D:=vj R<|bj q8;have mj:=l 0 m;have p:vl i z.am f (aP Q 0 0) a1 (if f=8 then bx i.ai av else []):=PR;rw[be (show¬f=14 by omega),be (show¬f=15 by omega),be (show¬(f=16\/f=17)by omega),bB q8]at d⊢;cases k:decide (f=8/\gi C z.ae z.cz (j z.ae) (aP Q 0 0)=false)with|true=>have b:=of_decide_eq_true k;rw[bB b]at d;cases d|false=>have x:=of_decide_eq_false k;rw[be x]at d⊢;cases b:fV i C z f Q a1 (if f=8 then bx i.ai av else []) F with|none=>rw[b]at d;cases d|some A=>cases A with|none=>rw[b]at d;cases d|some e=>have:=Hm aO C a1 _ F z aT aU f Q e aV aW p b;rw[this];rw[b]at d;exact d);. rw[be q8]at d⊢;exact d theorem Hm{e:aH}(J:dU e=true)(p:ab):∀(a2:dt)(a3:ab)(aw:Option (ab×ab))(K:br)(aX:c9)(aY:List cp)(a4:Int)(a5:ab)(ax:ab×ab),fy e K aX aY ->dp e.ai K.am=true ->vl e K.am a4 (aP a5 0 0) a2 a3 ->fV e p K a4 a5 a2 a3 aw=G (G ax)->fV e p K a4 a5 (hP a2) a3 aw=G (G ax)|[],bk,bl,bm,bo,bp,bq,bs,bt,_,_,_,aZ=>by rw[hP];exact aZ|S::a6,A,a',b,a7,a9,L,k,ay,T,U,aa,l=>by rw[fV]at l;cases x:fx e p (fR e b L k<|A.headD 0) (j b.am) S with|none=>rw[x]at l;cases l|some ad=>rw[x]at l;(have af:fx e p (fR e b L k<|A.headD 0) (j b.am) (eX S)=G ad/\vl e b.am L (aP k 0 0) a6 A.tail:=by rcases aa.Id with D|D;(. subst D;obtain⟨ag,bg,az,aA⟩:=aa.Ib u;have ah:=q7 aA;(have b0:ag.headD []=[]:=by cases ag with|nil=>rfl|cons b1 _=>exact az b1 a8);rw[b0,nG]at ah;refine⟨?_,⟨λ_=>⟨ag.tail,_,λag aA=>az ag<|If aA,ah.2⟩,λag=>m,aM u⟩⟩;simp only[fR,be (show¬((7:Int)=8)by omega)]at x⊢;exact Hk J p S b a7 a9 _ ad T U ah.1 x);. subst D;obtain⟨D,ag,ah,az,b0,aA⟩:=aa.Ic u;match A,D,ag,aA with|[],D,_,_=>simp at D|D::ag,hQ,aA,b0=>have ag:=q7 b0;simp only[h0,D0,zn]at ag;refine⟨?_,⟨λb0=>m,λ_=>⟨Dp,λb0 b1=>aA b0<|If b1,ah,az,_,ag.2⟩,bj u⟩⟩;simp only[fR,mn,D0]at x⊢;have b0:=T.gk (aP k 0 0) D ah az<|aA D a8;(have ah:((bh e.ai D).foldl (λ(az:br)aA=>az.grow aA 0<|aP k 0 0) {b with cJ:=b.cJ.set (aP k 0 0).toNat D,d8:=b.d8.set (aP k 0 0).toNat (j b.am)}).am=b.am++bh e.ai D:=by rw[r2]);exact Hk J p S _ _ _ (j b.am) ad b0 (by rw[ah];exact xj U<|zm (vd J) D) (by rw[ah];exact ag.1) x);rw[hP,fV,af.1];cases a' with|none=>exact Hm J p a6 A.tail _ b a7 a9 L k ay T U af.2 l|some ag=>simp only[]at l⊢;split at l;(. rename_i D;rw[bB D];exact Hm J p a6 A.tail _ b a7 a9 L k ay T U af.2 l);. cases l end
def a0N(c:iO M=true):iO (hf M)=true:=by
 simp only[iO,fH,hC]at c⊢;refine⟨Qd c.1,λo g=>?_⟩;obtain⟨a,e,rfl⟩:=iJ.1 g;have b:=c.2 a e;obtain⟨h,i,k,_⟩:=xx c.1 e;obtain⟨l,p,f⟩:=vm M a;have m:=fs.r4 M;unfold kO at b⊢;show(match fx (hf M) a.aG (jj a) (j a.aC) (eX a.aE)with|F=>false|G n=>gj n 0)=true;rw[<- m.fx];cases d:fx M a.aG (jj a) (j a.aC) a.aE with|none=>rw[d]at b;cases b|some c=>rw[d]at b;rw[Hk h a.aG a.aE _ _ _ _ c l (by rw[f];exact i) (by rw[f];exact k) d];exact b
mutual def iY:cd ->cd|.mk a b=> .mk (iD a) b def iD:bC ->bC|[]=>[]|a::b=>if eE a.af then iD b else qU a::iD b def qU:b7 ->b7|.mk a b _ c d=> .mk a b 0 c (s4 d)def s4:dt ->dt|[]=>[]|a::b=>iY a::s4 b end
def oT(a:aH):aH:=⟨a.ai,a.ah.map λa=>{a with aE:=iY a.aE}⟩
def OS(b2:ez N=true):eE N=true:=Qa
theorem Hn:∀(a b:bC),(∀c∈a,ez c.af=true)->iD (a++b)=iD b|[],a,_=>rfl|b::c,d,a=>by rw[j0,iD,bB (OS<|a b a8)];exact Hn c d λb c=>a b<|gb _ c
mutual theorem OT:∀c:cd,iY (eX c)=iY c|.mk k o=>by rw[eX,iY,iY,Ho k [] a8]theorem Ho:∀(d e:bC),(∀j∈e,ez j.af=true)->iD (fz d e)=iD d|[],f,_=>by rw[fz];have:=Hn (eP f) []<|zB f;rwa [nG]at this|b::g,h,l=>by rw[fz];cases i:ez b.af with|true=>simp only[mn];rw[Ho g (h++[b]) λm n=>by rcases cI.1 n with a|a;(. exact l m a);. simp at a;subst a;exact i];rw[iD,bB (OS i)]|false=>simp only[vq,nC];rw[Hn _ _ (zB h),iD,iD,Im,a0O b,Ho g [] a8]theorem a0O:∀a:b7,qU (jl a)=qU a|.mk b c d e a=>by rw[jl,qU,qU,OU a]theorem OU:∀a:dt,s4 (hP a)=s4 a|[]=>by rw[hP]|a::b=>by rw[hP,s4,s4,OT a,OU b]end
def a0P(a:aH):oT (hf a)=oT a:=by
 unfold oT hf;simp only[List.map_map];congr 1;refine List.map_congr_left λa _=>?_;simp[mT,OT]
end Go.Proofs.YtfekcilkpafpjaaGreat
