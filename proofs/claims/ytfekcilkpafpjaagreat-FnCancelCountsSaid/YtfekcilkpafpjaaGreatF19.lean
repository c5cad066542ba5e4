/- A part. -/
import Derived.Test.YtfekcilkpafpjaaGreatF14
import Derived.Test.YtfekcilkpafpjaaGreatF16
import Derived.Test.YtfekcilkpafpjaaGreatF18
open Array renaming size->x
open Go renaming Calls->aQ
open Go.Calls renaming mono->ab
open Go.IntKind renaming i64->B
open Go.Obj renaming cells->au
open Go.Value renaming int->C,slice->q,agg->aO
open Go.World renaming cell?->ax,alloc->aX
open List renaming length->j
open Option renaming none->G,some->H
open Or renaming inl->aN
namespace Go.Proofs.YtfekcilkpafpjaaGreat
open Go.RowKit
open Tryz renaming prog->aK
open Tryz
set_option maxRecDepth 100000
set_option maxHeartbeats 25600000
set_option linter.all false
section
attribute [local go_sem↓]Go.wp_at_zero Go.wp_at_succ
def a00(a:aH)(h:az)(i:Nat)(D:az)(k b:Nat)(y:a5)(E:cr [] y a h i D k)(l:qu a)(P:gS a=true)(n:b<j a.ag):aQ aK 42 #[aO #[q h (j a.ai) i,q D (j a.ag) k],C B b] y (fe y<|.bool<|kJ a a.ag[b]):=by
 obtain⟨f,s,L,t⟩:=FQ P n;have M:=l.hq b n;have K:=A (λQ(ae:F [] y Q)=>XP a h i D k b Q (E.I ae) (by grind[Hz]) n m);obtain⟨af,ag,ay,aA,aB,aE,o,p,rfl,_,aF,N,V,W,ah,ai,_,_,R⟩:=hl E.r n;have e:=A (by rw[kJ,yz];rfl:kJ a a.ag[b]=(match i3 a a.ag[b].aG [] (lH a.ag[b]) a.ag[b].aD.ap with|G=>G|H al=>ky al 0 a.ag[b].aD.aY).isSome);have X:=hY a.ag[b].aD;have g:=eQ.new a a.ag[b] (c9 a.ag[b].aD.ap+0) s m m;have v:(lH a.ag[b]).b3=a.ag[b].aC:=by rw[<-(x6 a a.ag[b]).1.cD];exact(x6 a a.ag[b]).2.2
 have r:dL a (lH a.ag[b]).b3 a.ag[b].aD.ap≠G:=λaI=>FF;obtain⟨O,I⟩:=aq (λS J T(am:ea S y J T a a.ag[b].aG [] (lH a.ag[b]))(aJ:F [] y J)=>ZX f l.i9 (c9 a.ag[b].aD.ap+1) S 0 y J T a.ag[b].aG [] (lH a.ag[b]) a.ag[b].aD.ap o p R am g r m) (λd(an:i3 a a.ag[b].aG [] (lH a.ag[b]) a.ag[b].aD.ap=H d)=>show j d.ae=j d.b3/\j d.bm=j d.b3/\j d.b3<=1073741824/\dN d.ae 1099511627776/\∃U:Nat,a.ag[b].aD.aY=U/\U<j d.b3 from by obtain⟨c,Y⟩:=eQ.ap (z:=0) f l.i9.d3 a.ag[b].aD.ap _ d g r an;have Z:=t;rw[uc,<-v,Y]at Z;(have Y:bS 0 a.ag[b].aD.aY (j d.b3 - 1)=true:=a4);obtain⟨Z,a0⟩:=fk Y;obtain⟨Y,a0⟩:=dA Z;have:=c.lx;exact⟨c.ae,c.bm,m,c.my.mono m,Y,a0,m⟩);clear E l P R g v r t s f X M L N V W;generalize kJ a a.ag[b]=V at*;generalize a.ag[b]=c at*;go_enter func42,ntmps42;go_upto_region 0 with fail;go_cut [2](λao wx=>ao=d0 y 0/\F [] y wx/\wx.heap[x y.heap]?=H (au #[a1 h a.ai i,a1 (aZ af ag) a.ag k] 26 (0,0)));. exact mh
 obtain⟨rfl,r:ak _,s⟩:=hcut;obtain⟨⟨f,g⟩,_⟩:=b8 s;have t:=r.a3 ah;have v:=r.a3 ai;have ap:=A<|K.h _ r;clear s K;go_upto_region 3 with(go_at_call 76;refine ab ap.h ?_;rintro K bP⟨s,rfl,L⟩;have ar:=A L;obtain⟨f,g,t,v⟩:=L.a9.ex f g t v;clear L);obtain⟨W,da⟩:∃av,av=aX bP (au #[a1 o c.aD.ap p,C B c.aD.aY] 38):=⟨_,u⟩;have M:=A<|show ea [x bP.heap] y W s a c.aG [] (lH c)from(ar.h.dF r.h).more kO bq;obtain⟨⟨X,N⟩,_⟩:=b8 (show W.heap[x bP.heap]?=H (au #[q o (j c.aD.ap) p,C B c.aD.aY] 38 (0,0))from YV);rw[<-da];clear da t v f g;generalize x bP.heap=Y at*;obtain⟨t,aL⟩:=aq (O.h _ _ _ M.h M.h.a9) M.h.a9;clear O;cases g:i3 a c.aG [] (lH c) c.aD.ap with|none=>rw[g]at t e;have v:=A<|show V=false from e.h;clear e I g;go_wp2_with(first|(go_at_call 77;refine ab t.h ?_;rintro K Z⟨rfl,f,O⟩;have Z:=A f;clear f O));go_ret;exact⟨cP v.h.symm,Z.h⟩|some f=>obtain⟨v,Z,a0,a2,O,a3,a6⟩:=I.h f g;rw[g]at t e;rw[a3]at N e;obtain⟨a7,aa⟩:=aq (λad(aw:ea [Y] y ad s a c.aG [] f)=>G7 y ad s a c.aG [] f o (j c.aD.ap) p O 0 aw a6 v Z a0 a2<|Nat.zero_le _) (show V=(ky f 0 O).isSome from e.h);clear e I g v Z a0 a2 a6 a3;generalize ky f 0 O=Z at*;have a0:=A (λa2(a3:ea [Y] y a2 s a c.aG [] f)=>(a7.h a2 a3).mono (R':=λa6 ax=>a6= .returned (.bool Z.isSome)/\F [] y ax) λaM aN v=>by cases Z with|none=>exact⟨v.1,v.2.1⟩|some aP=>exact⟨v.1,v.2.1.a9⟩);rw[<-aa.h]at a0;clear a7 aa;go_wp2_with(first|(go_at_call 77;refine ab t.h ?_;rintro K g⟨rfl,d:ak _,b⟩;have X:=b.cell X a8;have N:=b.cell N a8;clear b)|(go_at_call 78;refine ab (a0.h _ d.h) ?_;rintro K h⟨rfl,f:ak _⟩));go_ret;exact⟨u,f.h⟩
def a01(n:aH)(a:az)(b:Nat)(c:az)(d:Nat)(y:a5)(e:cr [] y n a b c d)(h:qu n):aQ aK 17 #[aO #[q a (j n.ai) b,q c (j n.ag) d]] y (fe y<|.bool<|ki n):=by
 rw[<-Pf];obtain⟨G,I⟩:=aq e h;have X:=r4 e.r;have lJ:=A (by rw[x5,z7]:x5 n=(gS n&&n.ag.all (kJ n)));generalize x5 n=iu at*;have g:=A (λt(J:F [] y t)=>O5 n a b c d t (e.I J) h);rw[z7]at g;clear e h;go_enter func17,ntmps17;go_upto_region 0 with fail;go_cut [1](λK wx=>K=d0 y 0/\F [] y wx/\wx.heap[x y.heap]?=H (au #[a1 a n.ai b,a1 c n.ag d] 26 (0,0)));. exact mh
 obtain⟨rfl,k:ak _,f⟩:=hcut;obtain⟨⟨l,o⟩,_⟩:=b8 f;clear f;have f:=A<|g.h wc k.h;clear g;have L:=A (λ(M:gS n=true)v(N:v<j n.ag)z(O:F [] y z)=>a00 n a b c d v z (G.h.I O) I.h M N);cases g:gS n;(.rw[g]at f lJ;go_wp2_with(go_at_call 39;refine ab f.h ?_;rintro s s⟨rfl,r:ak _⟩);go_ret;exact⟨cP vS,k.h.aa r.h⟩);rw[g]at f lJ;have P:=A<|L.h g;clear g;go_wp2_with(go_at_call 39;refine ab f.h ?_;rintro D Q⟨rfl,g:ak _⟩;have l:=g.a3 l;have o:=g.a3 o);go_loopw [10](λS wr=>∃r:Nat,r<=j n.ag/\S=C B r/\(n.ag.take r).all (kJ n)=true/\F [] Q wr)(λT _=>j n.ag -(intOf T).toNat);.grind[aj]
 obtain⟨av,Y,rfl,mz:ak _,hh:ak _⟩:=hrel;have yp:=A<|(k.h.aa g.h).aa hh;have Z:=hh.a3 l;have a0:=hh.a3 o;by_cases s:av<j n.ag;(. obtain⟨E,U,pu⟩:=bb (P.h av s wr yp.h) (fE n.ag av s) (λ(V:kJ n n.ag[av]=false)=>show n.ag.all (kJ n)=false from zO (p:=kJ n) s V);(have W:kJ n n.ag[av]=true\/kJ n n.ag[av]=false:=a4);have Mt:=A (by rw[U.h,vw,mz.h]:(n.ag.take<|av+1).all (kJ n)=(true&&kJ n n.ag[av]));generalize kJ n n.ag[av]=a2 at*;rcases W with rfl|rfl;(.go_wp2_with(go_at_call 42;refine ab E.h ?_;rintro D a⟨rfl,e5:ak _⟩);exact WV);.go_wp2_with(go_at_call 42;refine ab E.h ?_;rintro D a⟨rfl,e5:ak _⟩);exact WW);. exact WX
end
end Go.Proofs.YtfekcilkpafpjaaGreat
