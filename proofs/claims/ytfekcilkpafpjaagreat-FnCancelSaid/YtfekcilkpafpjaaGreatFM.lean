/- A part. -/
import Derived.Test.YtfekcilkpafpjaaGreatF00
import Derived.Deep.DeepCutAuto
import Derived.Deep.RegionHeld3
open Array renaming size->x
open Go renaming Calls->aR
open Go.Calls renaming mono->ad
open Go.Ending renaming returned->bg
open Go.IntKind renaming i64->B
open Go.Obj renaming cells->au
open Go.Value renaming int->C,slice->q,agg->aO
open Go.World renaming cell?->ax,drew->eg,alloc->aY,setCell->bX
open Int renaming toNat->bw
open List renaming length->j,range->aQ,getD->aP
open Option renaming none->F,some->G
open Or renaming inl->aM,inr->bj
namespace Go.Proofs.YtfekcilkpafpjaaGreat
open Go.RowKit
open Tryz renaming prog->aK
open Tryz
set_option maxRecDepth 100000
set_option maxHeartbeats 25600000
set_option linter.all false
abbrev eW:=@AllReadyH.cons
abbrev io:=@AllReadyH.nil
abbrev im:=@wpAnyH_ready
abbrev v6:=@wp_region_held_drew
section
variable{p:Prop}
def m(h:p:=by omega):=h
def a3(h:p:=by grind):=h
def a8(h:p:=by(simp);first|done|fail):=h
def bf(h:p:=by go_num):=h
def bi(h:p:=by decide):=h
def cB(h:p:=by kernel_rfl):=h
def fP(h:p:=by go_simp):=h
def j2(h:p:=by have:=cD g aL;simp;omega):=h
def jq(h:p:=by have:=c0.size;omega):=h
def jR(h:p:=by have:=cD g aL;omega):=h
def ln(h:p:=by rw[dk];exact ap.alloc _):=h
def mu(h:p:=by have:=cL.size;omega):=h
def nM(h:p:=by exact a1t):=h
def nX(h:p:=by first|exact ix z|exact ST z):=h
def oK(h:p:=by exact a1u):=h
def oF(h:p:=by exact a1v):=h
def pH(h:p:=by have:=cD.h g aL;omega):=h
def pk(h:p:=by rw[dk];exact dD wr _):=h
def pG(h:p:=by exact a1w):=h
def pA(h:p:=by exact a1x):=h
def pe(h:p:=by have:=fk.1;simp;omega):=h
def s3(h:p:=by exact a1y):=h
def rE(h:p:=by rw[gX.h];exact b2):=h
def rO(h:p:=by first|omega|(simp;omega)):=h
def sA(h:p:=by exact a1z):=h
def st(h:p:=by exact a1A):=h
def sU(h:p:=by exact a1B):=h
def sL(h:p:=by first|exact nV.h|exact ap):=h
def ui(h:p:=by (try dsimp only);go_keep):=h
def tO(h:p:=by rw[<-mY.h];omega):=h
def tI(h:p:=by have:=cD.h g aL;simp;omega):=h
def tQ(h:p:=by exact a1C):=h
def tm(h:p:=by exact a1D):=h
def tM(h:p:=by have:=cV.f9;omega):=h
def ud(h:p:=by exact a1E):=h
def uI(h:p:=by exact a1F):=h
def vw(h:p:=by exact a1G):=h
def wS(h:p:=by exact a1H):=h
def wi(h:p:=by rw[lQ.h];rfl):=h
def wJ(h:p:=by have:=iw.h g aL;omega):=h
def wn(h:p:=by exact a1I):=h
def vO(h:p:=by exact R0):=h
def vI(h:p:=by(rw[cP]);first|done|fail):=h
def vK(h:p:=by exact a1J):=h
def yU(h:p:=by exact a1K):=h
def xK(h:p:=by have:=ir.fL g aL;simp;omega):=h
def yG(h:p:=by exact a1L):=h
def yI(h:p:=by (try dsimp only);all_goals exact trivial):=h
def yt(h:p:=by exact a1M):=h
def z8(h:p:=by have:=gY.h;simp;omega):=h
def yB(h:p:=by exact a1N):=h
def At(h:p:=by exact a1O):=h
def zX(h:p:=by rw[g8,ss];rfl):=h
def C2(h:p:=by exact a1P):=h
def AK(h:p:=by rw[ng];exact ap.alloc _):=h
def Bw(h:p:=by exact a1Q):=h
def AL(h:p:=by rw[ng];exact dD A _):=h
def BC(h:p:=by exact a1R):=h
def Bj(h:p:=by exact a1S):=h
def Bi(h:p:=by exact a1T):=h
def BV(h:p:=by cases cT;exact⟨_,GA,u⟩):=h
def Bg(h:p:=by have:=fk.h.1;omega):=h
def AN(h:p:=by have:=AM.h;omega):=h
def AP(h:p:=by rw[l3.h];rfl):=h
def A0(h:p:=by rw[<-tR.h];omega):=h
def Bh(h:p:=by have:=qA bM bv;omega):=h
def Co(h:p:=by exact a1U):=h
def Cr(h:p:=by exact a1V):=h
def Bv(h:p:=by exact a1W):=h
def BW(h:p:=by cases cT;exact⟨_,cy,u⟩):=h
def Bp(h:p:=by exact a1X):=h
def BX(h:p:=by rw[gl.ae];exact o1):=h
def F4(h:p:=by rw[fC];exact ox.h):=h
def Gf(h:p:=by exact XL):=h
def DL(h:p:=by rw[oo];exact eh):=h
def DG(h:p:=by have:=(bZ.ae.lt bM bv).1;omega):=h
def DJ(h:p:=by rw[e8];simp):=h
def Ha(h:p:=by have:=hr.size;omega):=h
def Hb(h:p:=by have:=(c6.ae.lt _ bv).2;omega):=h
def Hs(h:p:=by first|exact z.h.c|exact z.h.c.d8):=h
def H9(h:p:=by exact a1Y):=h
def Es(h:p:=by have:=c6.qk g aL;omega):=h
def FQ(h:p:=by rw[c8];omega):=h
def DF(h:p:=by exact a1Z):=h
def Ev(h:p:=by exact a20):=h
def Gd(h:p:=by (try dsimp only);all_goals(first|assumption|exact e7)):=h
def H0(h:p:=by exact a21):=h
def G8(h:p:=by rw[ks,gY.h];rfl):=h
def GC(h:p:=by exact a22):=h
def Dv(h:p:=by have:=b2.size;omega):=h
def GY(h:p:=by rw[qO];simp):=h
def Dx(h:p:=by exact a23):=h
def Gg(h:p:=by rw[uQ l cs XU.h];exact f0):=h
def Ew(h:p:=by have:=lK w9;omega):=h
def EX(h:p:=by rw[qt];omega):=h
def E0(h:p:=by subst b2;exact⟨u,ef,cf⟩):=h
def GI(h:p:=by unfold maxLen;omega):=h
def G7(h:p:=by exact a24):=h
def Dd(h:p:=by intro b a;cases a):=h
def GV(h:p:=by rw[te];omega):=h
def Et(h:p:=by have:=c6.a9.size;omega):=h
def EW(h:p:=by exact a25):=h
def Eo(h:p:=by exact a26):=h
def G0(h:p:=by rw[b7.eta];exact kU):=h
def Os(h:p:=by rw[jy.h,mK.h];rfl):=h
def Mj(h:p:=by have:=DO.2 ll;omega):=h
def Jg(h:p:=by have:=cf.f9;grind[oo]):=h
def MR(h:p:=by obtain⟨a,rfl⟩:=wN;exact(ap.drew).drewN a):=h
def LH(h:p:=by rw[fC];exact fk.h):=h
def Ln(h:p:=by have:=nh.h;omega):=h
def O6(h:p:=by rw[IntKind.wrap_i64];omega):=h
def Lk(h:p:=by rw[kh b2,ci]):=h
def LT(h:p:=by have:=LE ji;omega):=h
def P4(h:p:=by (try dsimp only);exact⟨e5,dE,d6,db⟩):=h
def M1(h:p:=by rw[UZ];exact ww.h.ae):=h
def KO(h:p:=by rw[kx.h];exact gQ _ aL):=h
def MI(h:p:=by rw[dk];exact dD cb _):=h
def Nd(h:p:=by (try dsimp only);all_goals(first|assumption|exact fF)):=h
def LK(h:p:=by rw[gX.h];exact a1p):=h
def Ok(h:p:=by match dx,g8 with|[a],_=>exact⟨a,u⟩):=h
def N8(h:p:=by rw[kx.h,gX.h];simp at bv;simp[bv]):=h
def Ii(h:p:=by rw[hf,PW n mT PY];rfl):=h
def MB(h:p:=by cases cs with|nil=>grind|cons a b=>exact b2.elim):=h
def K7(h:p:=by have:=lZ.h g aL;simp;omega):=h
def LC(h:p:=by have:=(qv.h.f.ae.lt _ bv).2;omega):=h
def M0(h:p:=by rw[yw];exact uy.h):=h
def Lu(h:p:=by have:=fL g aL;have:=ef.size;omega):=h
def P6(h:p:=by rw[Ch.h,nc.h]):=h
def KN(h:p:=by rw[<-kx.h];exact y9):=h
def JZ(h:p:=by have:=fL g aL;simp;omega):=h
def Oe(h:p:=by have:=C6.h;omega):=h
def Ue(h:p:=by rw[rz];exact fl LB.h):=h
def Xc(h:p:=by rw[uH];exact fl qL.box):=h
def a19(h:p:=by rw[kx.h];simp at bv;simp[bv]):=h
def Zq(h:p:=by have:=nh.h;have:=sJ.h;dsimp only;omega):=h
def T8(h:p:=by obtain⟨a,rfl⟩:=As;exact ap.drewN a):=h
def Z2(h:p:=by rw[pY];exact O7 cN cG w9):=h
def Sc(h:p:=by rcases cI.1 aL with a|a;(.exact(b2.lt g a).2);.grind):=h
def a0g(h:p:=by have:=x4.h;rwa [kY]at this):=h
def Qr(h:p:=by obtain⟨a,rfl⟩:=j6;exact ap.drewN a):=h
def Tc(h:p:=by (try dsimp only);exact⟨hp,jX,qb,sk,Av,mx⟩):=h
def Qf(h:p:=by rw[Go.Proofs.YtfekcilkpafpjaaGreat.fh]at cT;cases cT;exact b2):=h
def Wx(h:p:=by have:=wL.ae;rwa [j1]at this):=h
def V6(h:p:=by (try dsimp only);(have a:=oJ.h;exact⟨a.a2 e5,a.a2 dE⟩)):=h
def Rc(h:p:=by rw[oa,oa];exact⟨u,u,g8,u,u,oe,bA⟩):=h
def Xm(h:p:=by rw[fC];exact gY.h):=h
def a0q(h:p:=by (try dsimp only);exact⟨o6.h.a2 kE,o6.h.a2 kF⟩):=h
def a0f(h:p:=by rw[ti];exact dD fT _):=h
def a0u(h:p:=by rw[lQ.h];simp at xV;simpa using xV):=h
def a0d(h:p:=by rw[th];exact dD A _):=h
def Ul(h:p:=by rcases yo.h with a|a<;>rw[a]<;>rfl):=h
def Tz(h:p:=by cases a:s.ak with|nil=>simp_all|cons b c=>simp):=h
def Rz(h:p:=by have:=A2.h;simpa[b5]using this):=h
def Qn(h:p:=by rw[fX _ _ f0,Qm,mi.h,p6];rfl):=h
def Te(h:p:=by (try dsimp only);first|assumption|exact fF):=h
def Ub(h:p:=by rcases ek.1 aL with rfl|a;(.simp;omega);.have:=cD.h g a;simp;omega):=h
def Tf(h:p:=by (try dsimp only);exact⟨nb,j9,js,ya,yb,yc⟩):=h
def Qa(h:p:=by rcases p3.1 b2 with rfl|rfl<;>rfl):=h
def Tb(h:p:=by (try dsimp only);first|assumption|exact e7):=h
def Uw(h:p:=by rw[c8];have a:=AZ.h;rw[lp]at a;simp[dR]at a;omega):=h
def Xx(h:p:=by rw[kx.h,gX.h];exact a1p):=h
def Tn(h:p:=by have a:=kp.2.dA v;rw[AC]at a;simpa using a):=h
def WW(h:p:=by obtain⟨a,rfl⟩:=yD;exact ap.drewN a):=h
def Ts(h:p:=by rw[KX.h];exact gQ _ aL):=h
def XD(h:p:=by rw[dk];exact H.eo rS (x cb.heap) _ _):=h
def SK(h:p:=by have:=bZ.h;rwa [kY]at this):=h
def Ym(h:p:=by rcases b2.2 with⟨b,_⟩|⟨_,a⟩;(.grind);.exact a):=h
def Tl(h:p:=by rw[j7 fT dr 0 _ _ _ eh.more];rfl):=h
def Zo(h:p:=by have:=(s0.h.lt _ bv).2;simp at this):=h
def S8(h:p:=by obtain⟨a,rfl⟩:=qj;exact ap.drewN a):=h
def Rv(h:p:=by(first|exact xP.h|exact xP.h.I cZ);first|done|fail):=h
def YR(h:p:=by have:=(c6.h.jz.lt g aL).2;have:=dZ.h.size;omega):=h
def XC(h:p:=by rw[uN,bL,N3,N4,wR]):=h
def RT(h:p:=by have:=JQ.h;have:=JR.h;omega):=h
def Yn(h:p:=by rw[rX];exact yQ.h.I (ap.alloc _)):=h
def VB(h:p:=by exact(qB.h.iu ky.h).I cZ):=h
def WV(h:p:=by obtain⟨a,rfl⟩:=yD;exact hz.h.drewN a):=h
def Ra(h:p:=by have a:=fk.2 av vA (by rw[h6.h];exact vB);simpa only[h6.h]using a):=h
def a09(h:p:=by first|exact eb.h|exact eb.h.drew):=h
def Zp(h:p:=by have:=(s0.h.lt g aL).2;have:=cj.h.size;simp;omega):=h
def a18(h:p:=by have:=(bZ.ae.lt _ bv).1;simp at this;omega):=h
def TA(h:p:=by rw[<-vX.h,yh.h,IR nd]):=h
def Yo(h:p:=by rw[rX];exact dD cm _):=h
def To(h:p:=by rw[List.replicate_zero,nG];exact c6):=h
def Us(h:p:=by have:=F1.h;rw[be qx]at this;simpa using this):=h
def XJ(h:p:=by rw[kc,FH,qF,qF,List.set_set];rfl):=h
def V4(h:p:=by show j dm<=_;rw[b2.1];exact mD.nr):=h
def a29(h:p:=by rw[AB];simp[aF,Value.ownBlock]):=h
def a0h(h:p:=by have a:=Cj.h;rw[un,<-qS,cT]at a;simp at a):=h
def Wq(h:p:=by have:=nd.h.cf.f9;rw[oo]at this;omega):=h
def Y9(h:p:=by rw[jy.h,qN,gt,n3.h,p1];simp[NB]):=h
def V2(h:p:=by rcases cI.1 h3 with a|a;(.exact ir.h aS a);.grind):=h
def Ss(h:p:=by have:=c6.ae.bt;rw[k1 (cF _)]at this;exact this):=h
def SA(h:p:=by rw[K9.h,Ka.h,j6.h];omega):=h
def ZD(h:p:=by first|exact(cj.h.alloc _).aa lW.h|exact cj.h.alloc _):=h
def Wr(h:p:=by rw[dk];exact dD oL _):=h
def RS(h:p:=by rw[<-j6.h,kU.h,be rg]):=h
def PB(h:p:=by match ak,oe with|[a,b],_=>exact⟨a,b,u⟩):=h
def Uz(h:p:=by rw[sT.h];exact Ey sS.h f0):=h
def X4(h:p:=by rw[<-qC.h,wO.h,bB MX]):=h
def Ur(h:p:=by have:=F1.h;rw[bB qx,gS,xs,hm ut]at this;exact this):=h
def a0p(h:p:=by (try dsimp only);exact⟨v0.h.a2 kE,v0.h.a2 kF⟩):=h
def SW(h:p:=by rw[lT.h.1,<-vX.h,lp,Qj]):=h
def Rs(h:p:=by rcases Int.lt_or_eq_of_le hp with a|a;exact a;subst a;rw[eA.h.ei]at ji;simp at ji):=h
def aB(h:p:=by simp;omega):=h
def bq(h:p:=by(simp_all);first|done|fail):=h
def fm(h:p:=by simp[aF,Value.ownBlock]):=h
def nI(h:p:=by simp[cT]):=h
def oC(h:p:=by simp[b2]):=h
def oX(h:p:=by grind[cP]):=h
def qm(h:p:=by(simp[aL]);first|done|fail):=h
def qw(h:p:=by simp[bo.af]):=h
def rc(h:p:=by grind[n0.dW]):=h
def ra(h:p:=by simp at b2):=h
def qY(h:p:=by simpa using h3):=h
def sq(h:p:=by grind[oo]):=h
def v1(h:p:=by simpa using OB):=h
def tl(h:p:=by(simp[b6]);first|done|fail):=h
def tC(h:p:=by simp only[maxLen];omega):=h
def tK(h:p:=by grind[zh]):=h
def tn(h:p:=by simpa using h2):=h
def v7(h:p:=by simpa using ef):=h
def va(h:p:=by simp[ci]):=h
def w1(h:p:=by simp[aF,Value.ownBlock,cT]):=h
def wP(h:p:=by simp[mV]):=h
def v8(h:p:=by grind[b6]):=h
def x1(h:p:=by simp[tf]):=h
def xn(h:p:=by simpa using cT):=h
def y2(h:p:=by(simp[Act.eval,Act.put]);first|done|fail):=h
def z9(h:p:=by exact a27):=h
def za(h:p:=by exact a28):=h
def BF(h:p:=by simp[es.uu,aF,Value.ownBlock]):=h
def BK(h:p:=by simp[results,Tryz.results32,go_sem,iW,hE]):=h
def Bo(h:p:=by grind[wA]):=h
def zk(h:p:=by simp[dR]):=h
def zo(h:p:=by simp[f2]):=h
def Cw(h:p:=by simpa using a0y.h):=h
def A9(h:p:=by simpa using y0.h):=h
def Cx(h:p:=by simpa using hv):=h
def CZ(h:p:=by grind[iN]):=h
def Hr(h:p:=by simp;try omega):=h
def DP(h:p:=by simp[b6,cw]):=h
def Gb(h:p:=by simp[gY.h]):=h
def G1(h:p:=by grind[un]):=h
def F5(h:p:=by simp[ox.h]):=h
def F2(h:p:=by simpa using qx):=h
def FT(h:p:=by simp[Go.Proofs.YtfekcilkpafpjaaGreat.jH]):=h
def Dp(h:p:=by simpa using hQ):=h
def G6(h:p:=by grind[ap,H.alloc]):=h
def Gm(h:p:=by simp[results,Tryz.results148,go_sem,iW,hE,iQ]):=h
def Ft(h:p:=by grind[yz]):=h
def Dq(h:p:=by grind[gG]):=h
def E9(h:p:=by(rw[cP];simp);first|done|fail):=h
def LO(h:p:=by simp[cu,c8,dR]):=h
def JC(h:p:=by rw[tR.h];exact vx m):=h
def OF(h:p:=by simp only[iO,fH]at gl;exact gl.1):=h
def Mp(h:p:=by(simp[uA.h,FK.h]);first|done|fail):=h
def HW(h:p:=by grind[eE,mM]):=h
def Jj(h:p:=by simp;rintro rfl;exact vy (gQ _ en)):=h
def JK(h:p:=by simpa[a6]using vG.1):=h
def Mt(h:p:=by simp[sT.h];omega):=h
def J6(h:p:=by rw[cP];omega):=h
def N7(h:p:=by simp[results,Tryz.results35,go_sem,iW,hE]):=h
def Jn(h:p:=by rw[mY.h];exact vx m):=h
def IV(h:p:=by simp[Region.wanted,Dm]):=h
def Vx(h:p:=by simp[results,Tryz.results185,go_sem,d6,db,eL]):=h
def a0x(h:p:=by simp[results,Tryz.results14,go_sem,dL,ew]):=h
def Ws(h:p:=by simp[results,Tryz.results66,go_sem,fb,g1]):=h
def Pg(h:p:=by simp[results,Tryz.results226,go_sem]):=h
def Vn(h:p:=by simp[results,Tryz.results227,go_sem,d6,db,eL]):=h
def Vs(h:p:=by simp[results,Tryz.results182,go_sem,d6,db,eL]):=h
def XI(h:p:=by rw[dk];exact(H.refl [cR] ht).setCell (aM a8) _):=h
def Z0(h:p:=by rw[tB];exact O5 _ m):=h
def Xd(h:p:=by rw[uH];exact(H.refl [x cb.heap] jM).setCell (aM a8) _):=h
def Ww(h:p:=by rw[hX];exact(By.h.cons m).I c0.a9):=h
def Rb(h:p:=by simp[results,Tryz.results246,go_sem,dL,ew,ej,bo.af,bo.an,bo.a7]):=h
def Yh(h:p:=by simpa[aF,Value.ownBlock]using bv):=h
def R4(h:p:=by rw[show k*jY+jY=(k+1)*jY by grind];exact xL _ m):=h
def Tm(h:p:=by rw[KX.h];exact hA _ a29):=h
def VG(h:p:=by simp only[b5,kc,jt.Bf];exact kT):=h
def a1m(h:p:=by simp[results,Tryz.results225,go_sem,dL,ew,ej]):=h
def a0H(h:p:=by rw[zv m];split;(. rename_i a;rw[a]);. omega):=h
def Ud(h:p:=by rw[sO];exact(H.refl [p] jM).setCell (aM a8) _):=h
def PG(h:p:=by match dx with|[]=>simp|[a]=>exact bj (aM a3)|a::b::c=>simp):=h
def VK(h:p:=by simp[results,Tryz.results184,go_sem,d6,db,eL]):=h
def QR(h:p:=by simp[results,Tryz.results229,go_sem,dL,ew,ej,bo.af,bo.an,bo.a7]):=h
def RB(h:p:=by rintro rfl;exact JA DK.h m en):=h
def a0E(h:p:=by simp[results,Tryz.results11,go_sem,dL,ew]):=h
def Wu(h:p:=by simp[results,Tryz.results33,go_sem,fb,g1]):=h
def TZ(h:p:=by rw[<-sK.h,wj.h,be m];rfl):=h
def Ug(h:p:=by rw[show j (dX++[s])=j dX+1 by simp];exact AS.h):=h
def Uf(h:p:=by rw[rz];exact hz.h.setCell (aM a8) _):=h
def Uy(h:p:=by have a:=Lv b.ao k m;rw[AI f0]at a;omega):=h
def a1n(h:p:=by simp[results,Tryz.results139,go_sem,P7,P8]):=h
def X1(h:p:=by simp only[d9,kJ,gS,hm o1,ve]):=h
def X9(h:p:=by grind[ci,iU,List.take_append_drop]):=h
def QQ(h:p:=by simp[results,Tryz.results229,go_sem,dL,ew,ej]):=h
def YF(h:p:=by simp[results,Tryz.f210,go_sem,dL,ew,ej,pu,NX]):=h
def RK(h:p:=by simp[results,Tryz.results207,go_sem,JP]):=h
def Ve(h:p:=by simp[results,Tryz.results186,go_sem,d6,db,eL]):=h
def kq(h:p:=by simp at aL;omega):=h
def ko(h:p:=by simp at aL⊢;omega):=h
def ot(h:p:=by simp at bv;omega):=h
def tT(h:p:=by simp[b6,cw]at b2):=h
def vt(h:p:=by simp[b6];omega):=h
def DB(h:p:=by simp at aL;simp;omega):=h
def DI(h:p:=by simp at b2;omega):=h
def K6(h:p:=by simp at eh;subst eh;rfl):=h
def J8(h:p:=by simp at bv⊢;omega):=h
def Nr(h:p:=by simp at bv;simp[bv]):=h
def Me(h:p:=by simp at bv;subst bv;exact aM m7):=h
def VI(h:p:=by simp[aF,Value.ownBlock]at bv;subst bv;simp):=h
def SG(h:p:=by simp at kZ;rcases kZ with rfl|rfl|rfl<;>rfl):=h
def VH(h:p:=by simp at eh;subst eh;exact zh _):=h
def Rr(h:p:=by simp at kT;subst kT;exact mZ eA am (aM u)):=h
def SI(h:p:=by simp at kZ;rcases kZ with rfl|rfl|rfl|rfl<;>rfl):=h
def SN(h:p:=by simp[aF,Value.ownBlock]at b2;omega):=h
def SF(h:p:=by simp at kZ;rcases kZ with rfl|rfl<;>rfl):=h
def We(h:p:=by simp at bv;subst bv;exact aM uA.h):=h
def Rn(h:p:=by simp at kT;subst kT;exact mZ eA.h am (aM u)):=h
def V1(h:p:=by have:=(bZ.h.lt g bq).2;omega):=h
def Qs(h:p:=by rw[lQ.h,<-Qq,c6.h bq]):=h
def Xe(h:p:=by go_upto_region 13 with fail;have nZ:=y (show aU (x cb.heap::aQ (x aA.heap)) (x aA.heap) gZ 47 5 (q (aX cR 0) n ex) (b.ao.map dC)from by have:=nn.ae;rwa [oI.h]at this);obtain⟨_,_,o,p,E⟩:=oZ (show a6 _ gZ (e6 b.ao) (q (aX cR 0) n ex)from nZ.bt);injection o with a c r;subst r;rw[gY.h]at p;clear a c;obtain⟨Cv,a,s⟩:=nZ.WD (k+1) a3;(obtain⟨iH,c,f⟩:∃iH,(if ex=k+1 then G (Addr.mk cR 0 F)else G (Addr.mk cR ((k+1)*5) F))=G (Addr.mk cR iH F)/\∀i l,Cv[i]?=G l->aZ gZ cR (iH+i) l:=by by_cases t:ex=k+1;(.rw[bB t];have z:(b.ao.map dC).drop (k+1)=[]:=MG z8;rw[z]at a;refine⟨0,u,λJ K D=>?_⟩;cases Cv with|nil=>simp at D|cons L N=>exact a.elim);.grind);obtain⟨a13,a14,a15,a16⟩:=ck c (show cw (aF (q (aX cR 0) k ex)++(x cb.heap::aQ (x aA.heap))) gZ ((b.ao.map dC).drop (k+1)).flatten Cv from a) f (show Value.slice (if ex=k+1 then G (Addr.mk cR 0 F)else G (Addr.mk cR ((k+1)*5) F)) (n -(k+1)) (ex -(k+1))=q (G (Addr.mk cR iH F)) (n -(k+1)) (ex -(k+1))from by rw[c]);have i:=nZ.lt cR fm;have i:cR≠x cb.heap:=λcT=>nZ.e4 cR fm nI;clear c a s f;have a:=(H.refl [] gZ).drew.a2 d6;(have a:(0:Int)<=(k:Int):=m);(have a:(k:Int)<=(ex:Int):=m);(have a:(k:Int)<=(n:Int):=m);(have a:(0:Int)<=(k:Int)+1:=m);(have a:(k:Int)+1<=(n:Int):=m);(have a:(n:Int)<=(ex:Int):=m);(have a:((k:Int)+1).toNat=k+1:=m);have a:IntKind.i64.wrap ((k:Int)+1)=(k:Int)+1:=fD _ m;refine v6 (S:=(λ_=>True)) cB ?_ (λe7=>?_);(.grind);refine a4 0 86 ?_;refine a4 2 88 ?_;refine a4 4 90 ?_;refine a4 6 92 ?_;refine a4 7 93 ?_;refine im (rs:=[1,5]) cB a8 ?_;refine(eW u (λc a=>?_) (eW u (λc a=>?_) io));(.go_simp;refine aW a a3 λi=>?_;clear a c e7;refine a4 3 89 ?_;refine ba 5 λl f=>?_;go_simp;refine aW f a3 λe7=>?_;clear f l i;refine a4 8 94 ?_;exact a17);.go_simp;refine aW a a3 λf=>?_;clear a c e7;refine a4 8 94 ?_;refine ba 1 λc a=>?_;go_simp;refine aW a a3 λe7=>?_;clear a c f;refine a4 3 89 ?_;exact a17):=h
def R2(h:p:=by have e:=y (vz.one eA);go_wp2_with fail;refine ad (oY _ l 1 _ ((ir.I cj).a9 pg).hT ou ((ir.I cj).a9 pg).fL) ?_;rintro b6 K⟨b7,rfl,a,c⟩;have P:=y (c.bt:a6 a0 K (aI (bx l 1)) _);obtain⟨ar,aw,rfl,_⟩:=bF P;obtain⟨D,ax⟩:=aq (pg.aa a) (Jk.I a);have ay:=D.size;simp at ay;have h:bk K A 0 (a1 bl l bm):=a.a2 e5;have o:bk K A 1 (a1 bP aD bE):=a.a2 dE;clear a c e5 dE;go_wp2_with fail;refine ad (DA ((ir.I cj).a9 D) (p+1) ax _ am ((gu.I cj).a9 D (hg en)) m 1 a8 e.h2 (zP am e.flat) eA fa m) ?_;rintro L E⟨c,b8,hh,rfl,d,a,Jl:aj _,ba,Q,R,rfl,f⟩;have S:=y (D.then a);have bd:=a.size;obtain⟨az,vv,sp,Jm⟩:=ck d.1 (fK.DH (aT:=aT) (gC:=A.heap.size+2) S a8 (f.sub (eK m))) (((P.a9 a (hg en)).cons (cF _)).alloc _:a6 (aF (q (bU E 0) 1 1)++a0) (aY E (au #[ag c.af,ag c.an,a1 Q c.a7 R] 155)) (aI (bx l 1)) _) ((((gu.I cj).a9 S (hg en)).cons (cF _)).alloc _:a6 (aF (q (bU E 0) 1 1)++a0) (aY E (au #[ag c.af,ag c.an,a1 Q c.a7 R] 155)) (aI am) (a1 zQ am zR));clear a d f h o;have aA:=e.f9;have f:=y (⟨_,u⟩:∃aC:ab,aC=bx l 1);obtain⟨a,d⟩:=f.h;have h6:=y d;rw[<-d]at sp aA;rw[<-d];clear d f;go_wp2;go_loopw [13,14](λM aE wr=>∃(k T:Nat)(U:List bo),k<=j a/\aE=C B k/\gL (λaG aS=>bI l (b5 aD) (am++bh l aG) aS t) a k U/\fK aT (x A.heap+2) ((aY A (au #[a1 bl l bm,a1 bP aD bE] 126)).alloc (au #[ag 0,ag 0,q F 0 0] 155)) wr M (c::U)/\d1 b9 wr aT T/\T<=p+51+k*jY/\a6 (aF M++a0) wr (aI a) (a1 ar a aw)/\a6 (aF M++a0) wr (aI am) (a1 zQ am zR))(λ_ aH _=>j a -(intOf aH).toNat);(. exact R3);obtain⟨k,V,f,be,rfl,r,d,s,bg,z,J⟩:=hrel;obtain⟨fk,bZ,W,rb,zS⟩:=eY r d s z J;have aJ:=d.a9.size;simp at aJ;have h:bk wr A 0 (a1 bl l bm):=d.a9.aJ fP aB;have o:bk wr A 1 (a1 bP aD bE):=d.a9.aJ fP aB;have bj:k*jY<=3*jY:=xL _ m;have N:=y ((ir.I cj).a9 d.a9);clear r d s z J;by_cases f0:k<j a;(.obtain⟨aK,aM,rfl,vy:aj _,bn,J⟩:=bY rb f0;(have bp:k*jY+jY<=3*jY:=R4);obtain⟨aN,bq⟩:=DE (n:=a.length) (m:0<=b - 2);(have bs:a≠[]:=a3);(have bt:eQ ((b - 2).tdiv (j a)).toNat<=jY:=Jn);have aP:=y (it _ aN m);have aR:IntKind.i64.wrap (b - 2)=b - 2:=fD _ m;have aU:IntKind.i64.wrap ((b - 2).tdiv (j a))=(b - 2).tdiv (j a):=fD _ m;have bu:j (bh l a[k])<=3:=e.tL _ (by rw[<-h6.h];simp);go_wp2;go_region_held3(λO=>bk O A 0 (a1 bl l bm)/\bk O A 1 (a1 bP aD bE)/\aZ O aK (aM+k) (ag a[k]))(first|exact⟨h,o,J⟩|exact⟨dL,ew,ej⟩|exact⟨aa,ae,af⟩|exact⟨a4,a5,a7⟩|exact⟨aW,aX,a'⟩|exact⟨aV,vA,vB⟩)(first|(go_at_call 162;refine ad (lI _ l a[k] _ N.hT.drew ou) ?_;rintro L X⟨bw,rfl,ah,Y:aj _⟩;obtain⟨bz,bA,rfl,_⟩:=bF Y;have r:=y (ap.drew.aa ah:H [] wr X);have bB:=r.size;obtain⟨aV,vA,vB⟩:=r.dG h o J;clear ah)|(go_at_call 200;refine ad (q0 _ _ am (bh l a[k]) X ((Dw zS).I r) Y m m (N.I r).fL) ?_;rintro L Z⟨b1,rfl,ai,ak⟩;have a2:=y (ak.bt:a6 a0 Z (aI (am++bh l a[k])) b1);obtain⟨bC,bD,al,_⟩:=bF a2;rw[eV]at al;subst al;have s:=y (r.aa ai);have bG:=s.size;obtain⟨aW,aX,a'⟩:=s.dG h o J;clear ai ak)|(go_at_call 225;(try rw[aR]);(try rw[aU]);refine ad (aP a0 b9 aT _ _ Z (N.I s) V (W.I s) _ (am++bh l a[k]) a2 (by rw[eV];omega) t hp jX (xJ _ lT) m) ?_;rintro L wx⟨aS,bH,xE,rfl,an,z,xG:aj _,bJ,b3,b4,rfl,ao⟩;have ah:=z.size;obtain⟨iq,b0,xF⟩:=bb (s.cn.then z) (bZ.fresh (ao.sub (eK m))) an.1;have a4:=iq.aJ h aB;have a5:=iq.aJ o aB;have a7:=iq.aJ J Jj;have ah:=(H.refl [] wx).alloc (au #[ag aS.af,ag aS.an,a1 b3 aS.a7 b4] 155);obtain⟨aa,ae,af⟩:=ah.dG a4 a5 a7;clear z an ao ah)|(refine step_append u _ _ 153 u (aQ (x A.heap+2)) (x A.heap+2) 155 (aO #[ag 0,ag 0,q F 0 0]) 3 40 qd p9 u bi u13 _ u ((bZ.call m iq).alloc _) (q (bU wx 0) 1 1) [gz aS] u (oq b0 (bZ.below iq)) (λz eh=>vw) pe pe aB (λg aL=>ko) ?_;intro z z d z;obtain⟨xH,qe⟩:=aq d z;have dL:=z.a9.aJ aa (λbv=>a18);have ew:=z.a9.aJ ae (λbv=>a18);have ej:=z.a9.aJ af (λbv=>vy (hA _ bv));clear d z));all_goals go_wp2;go_roundw;(. exact R9);exact bc);. (have s:k=j a:=m);subst s;have z:=y (.xA e.ne az (by rw[<-h6.h];exact fk.1) (λav vA vB=>Ra):bI l (b5 aD) am (.mk 8 (1:Int) (c::f)) t);go_wp2_with fail;refine ad (s8 8 1 _ (c::f) _ bZ.ae.bt) ?_;rintro Y r⟨Z,rfl,d,J,O,rfl,X:aj _⟩;have a:=bZ.a9.aa d;have e:=a.size;simp at e;have s:aj (H [aT] A r):=y (cj.cn.then a);have D:=y (W.I d);have e:r.heap[x A.heap+1]?=G (au #[ag 0,ag 0,q F 0 0] 155 (0,0)):=(a.block _ a8 aB).trans vu;obtain⟨⟨dL,ew,ej⟩,r,r,r⟩:=fJ e;clear d a e h o;go_wp2;refine cl (v:= .agg #[ag (8),ag (1),.slice J (f.length+1) O]) Rb u ⟨.mk (8) (1) (c::f),_,V,u,z,s.cW m _ _ _,D.cW m _ _ _,m,hB.cW (aS:= .mk (8) (1) (c::f)) X m _ _ _⟩):=h
def Xf(h:p:=by go_upto_region 15 with fail;have T:=y (λ(d e:Int)i l o p f(U:a6 (x cb.heap::aQ (x aA.heap)) f (e6 b.ao) (q (aX cR 0) n ex))(V:dn (x cb.heap::aQ (x aA.heap)) f (cu d e) i l o p)(W:∀E,E∈x cb.heap::aQ (x aA.heap)->E<x f.heap)=>show aR aK 71 #[aO #[q (aX cR 0) n ex,C B b.aV],C B k,aO #[C B (cu d e).af,C B (cu d e).an,C B (cu d e).b1,q i (cu d e).ak.length l,q o (cu d e).a7.length p]] f (k3 (x cb.heap::aQ (x aA.heap)) f (.mk (b.ao.take k++cu d e::b.ao.drop k) b.aV))from by have a:=BA b (aX cR 0) ex k (cu d e) i l o p f (by rw[gY.h];exact U) V a3 (by rw[gY.h];omega) W;rw[gY.h]at a;exact a);have am:=λX=>((H.refl [] gZ).alloc X).a2 d6;have ap:=λY=>((H.refl [] gZ).alloc Y).a2 db;have ar:=λZ=>(((H.refl [] gZ).alloc Z).drew).a2 d6;have au:=λa1=>(((H.refl [] gZ).alloc a1).drew).a2 db;refine d7 (λF=>bk F cb 0 (q (aX cR 0) n ex)/\bk F cb 1 (C B b.aV)) ⟨d6,db⟩ λc=>?_;refine a4 0 99 ?_;refine a4 1 100 ?_;refine a4 2 101 ?_;refine a4 5 104 ?_;refine ba 3 λg a=>?_;go_simp;refine aW a a3 λr=>?_;clear a g c;refine ba 4 λs c=>?_;go_simp;go_at_call 96;refine ad (lR (a0:=[aT]) aT _ _ [14,15,15,16,17] _ (BH.I bd) a8 m (by first|exact(o0 gZ [14,15,15,16,17] a3 bi).drew|exact o0 gZ [14,15,15,16,17] (λa aL=>kq) bi|exact o0 (eg gZ) [14,15,15,16,17] (λa aL=>kq) bi) bi bi) ?_;rintro av J⟨a,rfl,aw,g,a5:aj _⟩;have K:=y (show H [aT] gZ J from H.then (H.cn bd) g);have L:=y (nn.a9 K);have ax:=K.size;obtain⟨⟨ay,az⟩,aC,aD⟩:=b8 L.box;clear g;go_simp;refine aW c a3 λt=>?_;clear c s r;refine ba 6 λz g=>?_;go_simp;go_at_call 34;refine ad (fW aT _ _ _ (a5.I bd) m m) ?_;rintro aE r⟨c,rfl,_,_,s,a9:aj _⟩;have M:=y (show H [aT] J r from H.then (H.cn bd) s);have N:=y (L.a9 M);have aF:=M.size;obtain⟨⟨aG,aH⟩,aI,aJ⟩:=b8 N.box;clear s;go_simp;refine aW g a3 λD=>?_;clear g z t;refine ba 7 λQ z=>?_;go_simp;go_at_call 72;refine ad (rk (a0:=cb.heap.size::List.range aA.heap.size) a c _ a3) ?_;rintro aM g⟨aa,ab,ae,ag,rfl,s,O:aj _⟩;have P:=y (show H [aT] r g from H.aa (H.cn bd) s);obtain⟨t,ah⟩:=aq (N.a9 P) (a9.I (show H [] r g from H.aa bd s));have aN:=P.size;obtain⟨⟨aP,aU⟩,aY,aZ⟩:=b8 t.box;clear s;go_simp;refine aW z a3 λai=>?_;clear z Q D;refine ba 8 λal Q=>?_;go_simp;go_at_call 71;refine ad (T a c aa ab ae ag _ ((show a6 _ g (e6 b.ao) (q (aX cR 0) n ex)from by have:=t.ae.bt;rw[oI.h]at this;exact this).I bd) ⟨O.a.I bd,O.k.I bd⟩ a3) ?_;rintro a' s⟨z,D,rfl,R,S:aj _⟩;have d:=y (show H [] g s from H.aa bd R);obtain⟨e,g⟩:=aq (t.a9 d.cn) (ah.I d);have f:=d.size;obtain⟨⟨i,l⟩,d,d⟩:=b8 e.box;obtain⟨⟨iW,hE⟩,d,d⟩:=b8 e.qJ;(have d:(cd.mk (b.ao.take k++cu a c::b.ao.drop k) b.aV).ao.length=n+1:=by show j (b.ao.take k++cu a c::b.ao.drop k)=_;simp[gY.h];omega);have f:=y (show(cd.mk (b.ao.take k++cu a c::b.ao.drop k) b.aV).aV=b.aV from u);rw[d]at S;rw[d,f.h];have o:=y (show a6 (x cb.heap::aQ (x aA.heap)) s (e6 (b.ao.take k++cu a c::b.ao.drop k)) (q z (n+1) D)from S);clear R d;go_simp;refine aW Q a3 λp=>?_;clear Q al ai;refine ba 9 λr d=>?_;go_simp;refine aW d (by(try dsimp only);(have f:=H.eo s (x A.heap+1) (q z (n+1) D) (C B b.aV);exact⟨f.aJ i aB,f.aJ l aB⟩)) λf=>?_;clear d r p;refine cK ?_;clear f;go_wp2;have d:=X8 b.ao k (cu a c);have d:=Xa a c;refine cl (v:= .agg #[.slice z (n+1) D,.int .i64 b.aV]) yG u (qK.fin (aA:=aA) (aS:=cb.heap.size) (hU:=G5+1+1) (fg:=b.ao.take k++cu a c::b.ao.drop k) z8 e.t4 g gt jb m m o)):=h
def XE(h:p:=by have Z:=rT.size;obtain⟨L,M,N,t,O⟩:=eY (Nb.a9 rT (λa2 bv=>aM a19)) (((Xz.aa ma).aa oP).trans rT (λa3 bv=>bj ot)) (((Xy.I ma).I oP).a9 rT (λa5 bv=>ot)) ((⟨(N9.d.I ma).I oP,(N9.r.I ma).I oP⟩:cx l6 rS n bl bm (aX b iH) h7).e3 rT (λa6 bv=>aM a19):cx l6 uO n bl bm (aX b iH) h7) ((rT.block (x A.heap+1) m aB).trans ((oP.block (x A.heap+1) m a8).trans ((ma.block (x A.heap+1) m a8).trans XA)));obtain⟨⟨d6,db⟩,_⟩:=b8 Nc;have e5:=rT.aJ (oP.aJ (ma.a2 e5) a8) aB;have dE:=rT.aJ (oP.aJ (ma.a2 dE) a8) aB;go_upto_region 18 with fail;refine d7 (λo=>bk o A 0 (a1 bl n.ai bm)/\bk o A 1 (a1 (aX b iH) n.ah h7)/\bk o cb 0 (a1 uL jO.ao uM)/\bk o cb 1 (C B jO.aV)) ⟨e5,dE,d6,db⟩ λe=>?_;refine a4 0 94 ?_;refine a4 1 95 ?_;refine a4 2 96 ?_;refine a4 3 97 ?_;refine a4 4 98 ?_;refine ba 5 λi c=>?_;go_simp;go_at_call 72;refine ad (rk (a0:=l6) 14 v _ (λg aL=>wS)) ?_;rintro a7 z⟨P,Q,R,S,rfl,d,D:aj _⟩;have a:=y (H.aa bd d:H [] uO z);have ab:=a.size;obtain⟨e5,dE,d6,db⟩:=a.e8 e5 dE d6 db;clear d;go_simp;refine aW c P4 λl=>?_;clear c i e;refine ba 6 λs i=>?_;go_simp;go_at_call 71;refine ad (BA (a0:=l6) jO uL uM dA (cu 14 v) P Q R S _ (L.I (a.aa bd)) ⟨D.a.I bd,D.k.I bd⟩ (by have:=Ge.h;omega) (by have:=Ge.h;omega) (λg aL=>wS)) ?_;rintro ae E⟨T,U,rfl,k,e⟩;obtain⟨c,d⟩:=c4 (cd.mk (jO.ao.take dA++cu 14 v::jO.ao.drop dA) jO.aV);rw[<-d]at e⊢;have V:=y (by rw[d,bL,N3,N4,i7 jO]:bL c=bL jO+2);clear d;obtain⟨d,W⟩:=aq (H.aa bd k:H [] z E) e;have af:=d.size;obtain⟨e5,dE,d6,db⟩:=d.e8 e5 dE d6 db;clear k e;go_simp;refine aW i P4 λX=>?_;clear i s l;refine ba 7 λY F=>?_;go_simp;go_at_call 62;refine ad (Wy (a0:=l6) n bl bm (aX b iH) h7 f c T U _ ⟨t.d.I ((a.aa d).aa bd),t.r.I ((a.aa d).aa bd)⟩ (W.I bd) wQ r uK m m m (λg aL=>wS)) ?_;rintro ag s⟨e,i,k,l,rfl,J,K:aj _⟩;have t:=y (H.aa bd J:H [] E s);obtain⟨e5,dE,d6,db⟩:=t.e8 e5 dE d6 db;have o:=y ((a.aa d).aa t);obtain⟨⟨iW,hE⟩,a,a⟩:=b8 ((o.block (x A.heap+1) m a8).trans O);have a:j (n.ah.set f {r with aE:=c})=j n.ah:=ks;simp only[a]at K⊢;clear J a;go_simp;refine aW F P4 λt=>?_;clear F Y X;refine ba 8 λz d=>?_;go_simp;refine aW d (by(try dsimp only);(have a:=H.eo s (x A.heap+1) (a1 e n.ai i) (a1 k n.ah l);exact⟨a.aJ e5 Hr,a.aJ dE Hr,a.aJ d6 Hr,a.aJ db Hr⟩)) λa=>?_;clear d z t;refine cK ?_;clear a;go_wp2;have a:=H.eo s (x A.heap+1) (a1 e n.ai i) (a1 k n.ah l);have d:=V.h;have d:=Na.h;refine cl (v:= .agg #[a1 e n.ai i,a1 k n.ah l]) N7 u ⟨⟨n.ai,n.ah.set f {r with aE:=c}⟩,e,i,k,l,p+1+1+1+1,uJ.put m f _ N5 (fB N6 m) (by show bL c<=_;omega),by show _=Ending.returned (aO #[a1 e n.ai i,q k (j (n.ah.set f _)) l]);rw[ks],?_,?_,m,?_⟩;(.exact(M.aa o).trans a (λc bv=>bj ot));(.exact(N.I o).a9 a (λc bv=>ot));.exact(K.e3 a (λa bv=>aM N8)).sub (λg aL=>aM (by rw[kx.h,gX.h];exact gb _ (gb _ aL)))):=h
def Xg(h:p:=by go_upto_region 11 with fail;have a:=nn.os.BE k rQ;rw[rR.h]at a;obtain⟨J,g,r,t,z,D⟩:=(show cR<x gZ.heap/\aZ gZ cR (k*5) (C B s.af)/\aZ gZ cR (k*5+1) (C B s.an)/\aZ gZ cR (k*5+2) (C B s.b1)/\aZ gZ cR (k*5+3) (q gU (j s.ak) gN)/\aZ gZ cR (k*5+4) (q ih (j s.a7) gO)from a);have c:=es.LV nn.jF rQ;rw[rR.h]at c;have f:=y (show dn [] gZ s gU gN ih gO from c.none);have O:=nn.os.lt cR fm;have P:cR≠x cb.heap:=λcT=>nn.os.e4 cR fm nI;obtain⟨Q,R,S,T,U⟩:=i4 ((H.refl [] gZ).drew.a2 g) ((H.refl [] gZ).drew.a2 r) ((H.refl [] gZ).drew.a2 t) ((H.refl [] gZ).drew.a2 z) ((H.refl [] gZ).drew.a2 D);clear a c;refine d7 (λc=>bk c cb 0 (q (aX cR 0) n ex)) (by(try dsimp only);exact d6) λd=>?_;refine a4 0 73 ?_;refine a4 1 74 ?_;refine a4 2 75 ?_;refine a4 3 76 ?_;refine a4 4 77 ?_;refine a4 5 78 ?_;refine a4 6 79 ?_;refine a4 7 80 ?_;refine ba 8 λi a=>?_;go_simp;refine aW a a3 λK=>?_;clear a i d;refine ba 9 λL E=>?_;go_simp;go_at_call 100;refine ad (WC s gU gN ih gO _ (BH.I ap.drew) aB m ⟨f.a.I ap.drew,f.k.I ap.drew⟩ m m) ?_;rintro cT d⟨a,i,l,o,p,M,V,W,rfl,G,N:aj _,I⟩;have c:=y (show H [aT] gZ d from(H.refl [] gZ).drew.cn.then G);have f:=y (nn.a9 c);have J:=c.size;obtain⟨⟨J,O⟩,P,Q⟩:=b8 f.box;have R:=c.aJ g aB;have S:=c.aJ r aB;have T:=c.aJ t aB;have t:=c.aJ z aB;have z:=c.aJ D aB;have c:=y (show aU (x cb.heap::aQ (x aA.heap)) (x aA.heap) d 47 5 (q (aX cR 0) n ex) (b.ao.map dC)from by have:=f.ae;rwa [oI.h]at this);have D:=λg=>m9 c g;have U:=y (c.MC k (i8.enc (I.all (λc r=>by(have V:c<x gZ.heap:=by rcases cI.1 r with g|g;(.exact(nn.os.lt c g).2);.grind);exact V))));clear G I;go_simp;refine aW E a3 λg=>?_;clear E L K;refine a4 10 83 ?_;refine ba 11 λr c=>?_;go_simp;refine aW c (by(try dsimp only);(have E:=H.ro d cR (k*5) (C B a.af) (C B a.an) (C B a.b1) (q i (j a.ak) l) (q o (j a.a7) p);exact E.aJ J aB)) λE=>?_;clear c r g;refine cK ?_;clear E;obtain⟨r,c⟩:=c4 (((((bX d ⟨cR,k*5,F⟩ (C B a.af)).setCell ⟨cR,k*5+1,F⟩ (C B a.an)).setCell ⟨cR,k*5+2,F⟩ (C B a.b1)).setCell ⟨cR,k*5+3,F⟩ (q i (j a.ak) l)).setCell ⟨cR,k*5+4,F⟩ (q o (j a.a7) p));obtain⟨g,E⟩:=aq (show H [cR] d r from by rw[c];exact H.ro d cR (k*5) (C B a.af) (C B a.an) (C B a.b1) (q i (j a.ak) l) (q o (j a.a7) p)) (show aU (x cb.heap::aQ (x aA.heap)) (x aA.heap) r 47 5 (q (aX cR 0) n ex) ((b.ao.map dC).set k (dC a))from by rw[c];exact U);rw[<-c];clear c J O P Q R S T t z D;obtain⟨⟨u0,u1⟩,_⟩:=b8 ((g.block (x cb.heap) m aB).trans f.box);obtain⟨⟨iW,hE⟩,c,c⟩:=b8 ((g.block (x A.heap+1) m aB).trans f.qJ);go_wp2;have c:=G3 b.ao k BG a;rw[yp.h]at c;refine cl (v:= .agg #[.slice (aX cR 0) n ex,.int .i64 b.aV]) yG u (qK.fin (aA:=aA) (aS:=cb.heap.size) (hU:=M) (fg:=b.ao.set k a) z8 (f.t4.trans g a3) (N.a9 g a3) gt jb m m ?_);have a:=E.bt;rw[<-qF]at a;exact a):=h
def QK(h:p:=by have a5:bk (aY lS (au #[] 155)) A 0 (a1 bl l bm):=((H.refl [] lS).alloc _).a2 QG;obtain⟨E,J⟩:=aq zO.2.2 zO.2.1;have a7:=zO.1;go_wp2_with fail;refine ad (lI (a0:=aF (.slice (bU lS 0) 0 0)++a0) _ l c _ ((QH.cons (cF _)).alloc _) ou) ?_;rintro K ab⟨ae,rfl,f,n⟩;have sp:=y n;obtain⟨L,M,rfl,_⟩:=bF n;have af:=f.size;obtain⟨Dy,vv⟩:=aq (QI.I ((ap.alloc (au #[] 155)).aa f)) ((fK.start (aT:=aT) QJ (gC:=A.heap.size+2) a8).I f);go_wp2;go_loopw [9,11](λo N wr=>∃(b r:Nat)(s:List bo),b<=j (bh l c)/\N=ag b/\gL (pa l (b5 aD)) (bh l c) b s/\fK aT (x A.heap+2) ((aY A (au #[a1 bl l bm,a1 bP aD bE] 126)).alloc (au #[ag 0,ag 0,q F 0 0] 155)) wr o s/\d1 b9 wr aT r/\r<=p+1+b*10/\a6 (aF o++a0) wr (aI (bh l c)) (a1 L (bh l c) M))(λ_ O _=>j (bh l c)-(intOf O).toNat);(. exact Jc);obtain⟨d,t,h,ah,rfl,P,a,Q,ai,R⟩:=hrel;obtain⟨fk,bZ,z,C⟩:=ck P a Q R;have S:=a.a9.size;simp at S;have ak:bk wr A 0 (a1 bl l bm):=a.a9.aJ fP aB;have al:bk wr A 1 (a1 bP aD bE):=a.a9.aJ fP aB;by_cases i:d<j (bh l c);(.obtain⟨a4,am,rfl,_,an,ao⟩:=bY C i;go_wp2;go_region_law(first|(go_simp;go_at_call 252;refine ad (E d i a0 b9 aT t _ _ (eg wr) (z.I ap.drew) aB en ((kp.I cj).a9 bZ.a9 (hg en)).drew ((c6.I cj).a9 bZ.a9 (hg en)).drew (λg aL=>j2) m) ?_;rintro K wx⟨aS,ar,T,rfl,Y,D,Z,av,aw,ax,rfl,a3⟩;have a4:=D.size;simp at a4;obtain⟨e,U,V,W⟩:=ck (ap.drew.then D:H [aT] wr wx) (bZ.fresh a3) Y Z)|(refine step_append u _ _ 153 u (aQ (x A.heap+2)) (x A.heap+2) 155 (aO #[ag 0,ag 0,q F 0 0]) 3 40 qd p9 u bi u9 _ u ((bZ.call m e).alloc _) (q (bU wx 0) 1 1) [gz aS] u (oq U (bZ.below e)) (λD eh=>vw) pe pe aB (λg aL=>ko) ?_;intro D D a D;obtain⟨X,k⟩:=aq a D));all_goals go_wp2;go_roundw;(.exact⟨d+1,T,_,m,bf,fk.snoc i V,bZ.grow e X k,(W.I (ap.alloc _)).a9 k.a9 (λbM bv=>DG),m,k.tG (a6.alloc (tH C en e) _) (λg aL=>j2)⟩);exact bc);. (have D:d=j (bh l c):=m);subst D;go_wp2_with fail;refine ad (s8 _ _ _ _ _ bZ.ae.bt) ?_;rintro W k⟨X,rfl,e,T,U,rfl,V⟩;have a:=e.size;have a:aj (H [aT] A k):=y ((cj.cn.then bZ.a9).aa e);obtain⟨b,d⟩:=aq (z.I e) V;have f:k.heap[x A.heap+1]?=G (au #[ag 0,ag 0,q F 0 0] 155 (0,0)):=((bZ.a9.aa e).block _ a8 aB).trans vu;obtain⟨⟨e,i,k⟩,n,n,n⟩:=fJ f;go_wp2;refine cl (v:= .agg #[ag 6,ag c,a1 T h U]) (by simp[results,Tryz.results252,go_sem,e,i,k,bo.af,bo.an,bo.a7]) u ⟨.mk 6 c h,_,t,u,J _ fk,a.cW m _ _ _,b.cW m _ _ _,m,hB.cW (aS:= .mk 6 c h) d m _ _ _⟩):=h
def ZJ(h:p:=by go_upto_region 14 with(go_at_call 45;refine ad (jn _ _) ?_;rintro s v⟨rfl,rfl⟩;rw[ie]);go_upto_region 14 with fail;go_wp2;refine d7 (λe=>ax e ⟨x A.heap,0,F⟩=G (q bl (j n.ai) bm)/\ax e ⟨cR,ZI,F⟩=G (C B t)) (by(try dsimp only);(have a:H [] wr _:=(H.refl [] wr).drew;exact⟨a.a2 e5,a.a2 d6⟩)) λf=>?_;refine a4 0 107 ?_;refine a4 1 108 ?_;refine a4 2 109 ?_;refine a4 3 110 ?_;refine a4 4 111 ?_;refine im (rs:=[5,9]) cB a8 ?_;refine(eW u (λb a=>?_) (eW u (λb a=>?_) io));(.go_simp;go_at_call 148;refine ad (Ol.h _ ((H.refl [] wr).drew)) ?_;rintro o m⟨c,d,g,i,k,rfl,l,_,_⟩;have v3:=y (show H [] wr m from((H.refl [] wr).drew).aa l);clear l;go_simp;refine aW a a1a λo=>?_;clear a b f;refine a4 6 106 ?_;refine a4 7 113 ?_;refine a4 8 114 ?_;refine ba 9 λp l=>?_;go_simp;refine aW l (by(try dsimp only);(have m:H [] wr _:=(v3.h.alloc (au #[C B 0,C B 0,q F 0 0] 100));exact⟨m.a2 e5,m.a2 d6⟩)) λr=>?_;clear l p o;refine ba 10 λo l=>?_;go_simp;refine aW l (by(try dsimp only);(have m:H [] wr _:=v3.h.alloc (au #[C B c,C B d,q g i k] 100);exact⟨m.a2 e5,m.a2 d6⟩)) λm=>?_;clear l o r;refine a4 11 13 ?_;refine cK ?_;clear m;have l:=y (dZ.h.aa (show H [] wr _ from v3.h.alloc (au #[C B c,C B d,q g i k] 100)));go_wp2;go_ret2;exact eO.mk' fe.h l.h);.go_simp;refine aW a (by(try dsimp only);(have c:H [] wr _:=((H.refl [] wr).drew.alloc (au #[C B 0,C B 0,q F 0 0] 100));exact⟨c.a2 e5,c.a2 d6⟩)) λp=>?_;clear a b f;refine ba 5 λr g=>?_;go_simp;go_at_call 148;refine ad (Ol.h _ (((H.refl [] wr).drew.alloc (au #[C B 0,C B 0,q F 0 0] 100)))) ?_;rintro z c⟨i,k,l,m,o,rfl,d,_,_⟩;have v3:=y (show H [] wr c from(((H.refl [] wr).drew.alloc (au #[C B 0,C B 0,q F 0 0] 100))).aa d);have a:=(d.block (x wr.heap) a8 a8).trans (dD wr (au #[C B 0,C B 0,q F 0 0] 100));obtain⟨⟨b,b,b⟩,b,b,b⟩:=fJ a;clear a;clear d;go_simp;refine aW g a1a λd=>?_;clear g r p;refine a4 6 106 ?_;refine a4 7 113 ?_;refine a4 8 114 ?_;refine ba 10 λe a=>?_;go_simp;refine aW a (by(try dsimp only);(have b:H [x wr.heap] wr _:=v3.h.cn.trans (H.g0 c (x wr.heap) (C B i) (C B k) (q l m o)) λf bv=>aM bv;exact⟨b.aJ e5 aB,b.aJ d6 aB⟩)) λb=>?_;clear a e d;refine a4 11 13 ?_;refine cK ?_;clear b;have a:=y (dZ.h.aa (show H [] wr _ from v3.h.trans (H.g0 c (x wr.heap) (C B i) (C B k) (q l m o)) (λb bv=>bj ot)));go_wp2;go_ret2;exact eO.mk' fe.h a.h):=h
def a07(h:p:=by have k:=y (yh.h cA mK.h);go_upto_region 9 with(first|(go_at_call 45;refine ad (jn _ _) ?_;rintro l N⟨rfl,rfl⟩;rw[n3.h])|(go_at_call 154;refine ad (vH _ _) ?_;rintro l N⟨rfl,rfl⟩;rw[Cd.h])|((first|go_at_call 153|go_at_call 155);refine ad (Cc.h _ (gX.h _ cj.h jb)) ?_;rintro l d⟨rfl,o,c⟩;obtain⟨e,O⟩:=aq o ((bQ.dW cj.h hH.h).trans (c.less a3));have fb:=c.cell fb a8;have g1:=c.cell g1 a8;have g2:=c.cell g2 a8;have gm:=c.cell gm a8;have gV:=c.cell gV a8;clear o c));obtain⟨P,Q⟩:=aq e.h.a9 e.h.lt;obtain⟨R,S,T,U,f,V,W,a⟩:=e.h;obtain⟨M,X,Y⟩:(cA).b4.length=j b.b4/\(cA).ae.length=j b.b4/\(cA).bn.length=j b.b4:=⟨qy j k.h.1,k.h.2⟩;have q:dz (x A.heap::a0) aA d p 77 [R,S,T,U] (mJ n aG bO) (gE cA f V W):=a;obtain⟨g,r⟩:=aq (eN.f4 a) (show a6 [] d (aI b.b4) f from(qy (λZ=>a6 [] d (aI Z) f) k.h.1).mp ((q.ae 0 ⟨3,1,f,b6 (cA).b4⟩ u).bt.sub a8));obtain⟨hF,mB,a2,a5,Ce,a7,a9⟩:=eq a.cQ;obtain⟨v,z,rfl,_⟩:=gq g.h.1;obtain⟨D,E,rfl,_⟩:=uS g.h.2.1;obtain⟨F,J,rfl,_⟩:=bF r.h;obtain⟨ab,af⟩:=aq (λK(i:H [] d K)=>yQ.h K v z D E (a1 F b.b4 J) ⟨g.h.1.I i,g.h.2.1.I i⟩ (r.h.I i) (fa.h.I (P.h.aa i))) (λL(ag:H [] d L)=>yP aA L p n aG bO (cA) t (min t 1) (e.h.I ag) m m m);clear M X Y q a a2 a5 a7 a9;go_wp2_with fail;refine d7 (λa=>aZ a p 0 (a1 v n.ai z)/\aZ a p 1 (a1 D n.ah E)/\aZ a p 4 (a1 F b.b4 J)/\bk a A 0 (C B s.af)/\bk a A 1 (C B s.an)/\bk a A 2 (C B s.b1)/\bk a A 3 (a1 gU s.ak gN)/\bk a A 4 (a1 ih s.a7 gO)) ⟨hF,mB,Ce,fb,g1,g2,gm,gV⟩ λX=>?_;refine a4 0 41 ?_;refine a4 1 42 ?_;refine a4 2 43 ?_;refine a4 3 44 ?_;refine a4 4 45 ?_;refine a4 5 46 ?_;refine a4 6 47 ?_;refine a4 7 48 ?_;refine a4 8 49 ?_;refine ba 9 λY q=>?_;go_simp;go_at_call 111;refine ad (ab.h _ ap.drew) ?_;rintro a2 a5⟨rfl,M⟩;have eb:=y (ap.drew.aa M:H [] d a5);clear M;go_simp;refine aW q a08 λM=>?_;clear q Y X;refine a4 10 40 ?_;refine a4 11 51 ?_;refine a4 12 52 ?_;refine a4 13 5 ?_;refine a4 14 6 ?_;refine cK ?_;clear M;go_wp2_with(go_at_call 112;refine ad (af.h _ a09) ?_;rintro a2 X⟨rfl,q,M⟩;obtain⟨a,c⟩:=aq q M;clear q M);(try go_ret);exact H5.h _ _ (a.h.less a3) (O.h.trans (((bQ.dW eb.h Q.h).trans c.h).less a3)) Os):=h
def VR(h:p:=by skip;go_wp2_with fail;refine ad (VO eA.h fa.h f dY dm wD.h.Bm Bq.h Fx fc.h bd m) ?_;rintro n h⟨ce,o,b,c,rfl,a,mF,ef,_,p,d⟩;obtain⟨qD,i⟩:=aq (show bI l (b5 aD) dY ce dm from a) mF;have r:=ef.size;obtain⟨e,g⟩:=aq (t0.h.call fc.h ef m7 m) (show a6 (x cm.heap::aQ (x A.heap+2)) h (c3 ce.a7) (a1 b ce.a7 c)from d.sub a3);obtain⟨_,_,⟨s,t,z⟩,⟨D,E,F⟩,_⟩:=e.h.cells;obtain⟨ju,l5⟩:=aq (i.h.set (cN:=cm.heap.size) m (C B ce.af) (C B ce.an) (a1 b ce.a7 c)) (e.h.set a8 g.h);clear mF ef d a kr iQ;have I:=l5.h.lt;have J:=ju.h.size;have nk:=y (g.h.pi (cN:=cm.heap.size) a8 (C B ce.af) (C B ce.an) (a1 b ce.a7 c));by_cases ll:da ce<=30;(. exact a1b);.have K:lJ ce<0:=xR ll;go_wp2_with fail;refine ad (q2 (a0:=cm.heap.size::List.range (A.heap.size+2)) ce _ _ ⟨_,_,u,nk.h⟩) ?_;rintro L M⟨rfl,d⟩;have a:=y (ju.h.I d);obtain⟨Fr,Fs⟩:=a.h.cells;have N:=a.h.size;clear d;go_wp2_with fail;refine ad (rH eA.h fa.h _ dY dm 12 a.h bd (a.h.iu ky.h) m m (rI.h dY) m m a3 Ft) ?_;rintro O d⟨aS,P,wF,wG,rfl,rJ,mF,ef,_,k,wH⟩;rw[show(12:Int).toNat=12 from u,yz]at k;obtain⟨Fu,Fv,Fw⟩:=bb mF (wH.sub (eK m):a6 (aQ (x A.heap+2)) d (c3 aS.a7) (q wF (j aS.a7) wG)) (show bI l (b5 aD) dY aS dm/\da aS<=30 from⟨rJ.1,rJ.2 qC.h⟩);obtain⟨⟨d6,db,eL⟩,a,a,a⟩:=mF.h;exact a1c):=h
def VT(h:p:=by skip;go_wp2_with fail;refine ad (VM eA.h fa.h f dY dm wD.h.Bm VS.h Mk fc.h bd m) ?_;exact a1d):=h
def VU(h:p:=by skip;go_wp2_with fail;refine ad (VN eA.h fa.h f a dY dm wD.h.Bm Mi Ml fc.h bd m) ?_;exact a1d):=h
def Td(h:p:=by have a:=eb.size;obtain⟨nb,j9,js,ya,yb,yc⟩:=eb.fo dE ei nU fM dG e8;clear w3 Aw Ax;go_simp;refine aW cy Tf λfF=>?_;clear cy dj e7;refine ba 15 λdj cy=>?_;go_simp;refine aW cy ui λe7=>?_;clear cy dj fF;refine ba 16 λdj cy=>?_;refine jp u _ _ _ u ((x cm.heap+1)::fd) (x cm.heap) 40 (aO #[q F 0 0,q F 0 0,C B 0,q F 0 0,C B 0]) 5 88 sG rh u bi (q ea av cE) _ (c6.h.ae.I eb.h) av py.h _ (f1 (mT r)) u KN (λb aL=>dF (hH b KO) a) m m m u u u ?_;intro hZ ey d b;have pz:=y b;have a:=b.a9;obtain⟨⟨c,c⟩,c,c⟩:=b8 (c6.lv eb b);have k6:=y (λc(e:c∈aF (q ea av cE))=>(c6.ae.lt c e).1);have gW:=a.aJ nb (λbv=>z9);have gx:=a.aJ j9 (λbv=>z9);have hY:=a.aJ js (λbv=>z9);have yd:=a.aJ ya (λbv=>z9);have ye:=a.aJ yb (λbv=>z9);have yf:=a.aJ yc (λbv=>z9);clear b a;refine aW cy KP λfF=>?_;clear cy dj e7;refine a4 17 34 ?_;refine ba 18 λdj cy=>?_;go_simp;refine aW cy (by(try dsimp only);(have a:=(H.refl [x cm.heap+1] d).setCell (p:=kb cm 1 1) (aM a8) (q hZ (av+1) ey);exact⟨a.aJ gW aB,a.aJ gx aB,a.aJ hY aB,a.aJ yd aB,a.aJ ye aB,a.aJ yf aB⟩)) λe7=>?_;exact Th):=h
def UM(h:p:=by clear cy dj e7;refine ba 9 λj e=>?_;refine jp u _ _ _ u ((x aA.heap+1)::fd) (x aA.heap) 47 (aO #[C B 0,C B 0,C B 0,q F 0 0,q F 0 0]) 5 72 lo kW u bi (q iV av ex) _ (c6.h.ae.I eb.h) av py.h _ (es.raw ⟨s,B0,B1,B2,B3⟩) u y9.h (λa b=>dF (hH.h a (gQ _ b)) yu) m m m u u u ?_;intro c d f b;have k:=y b;have a:=b.a9;obtain⟨⟨g,g⟩,g,g⟩:=b8 (c6.h.lv eb.h b);obtain⟨l,k6⟩:=aq (UL.h.beside b.a9 b.dA) (λg(n:g∈aF (q iV av ex))=>c6.h.ae.lt g n);have g:=a.aJ hp (λbv=>za);have n:=a.aJ jX (λbv=>za);have o:=a.aJ qb (λbv=>za);have r:=a.aJ sk (λbv=>za);have t:=a.aJ Av (λbv=>za);have v:=a.aJ mx (λbv=>za);clear b a;refine aW e a3 λz=>?_;clear e j fF;refine a4 10 26 ?_;refine ba 11 λe b=>?_;go_simp;refine aW b (by(try dsimp only);(have a:=(H.refl [x aA.heap+1] f).setCell (p:=kb aA 1 0) (aM a8) (q c (av+1) d);exact⟨a.aJ g a3,a.aJ n a3,a.aJ o a3,a.aJ r a3,a.aJ t a3,a.aJ v a3⟩)) λa=>?_;clear b e z;refine cK ?_;clear a;go_wp2;go_roundw;(.refine⟨av+1,c,d,co++[⟨s,B0,B1,B2,B3⟩],m,bf,?_,?_,?_⟩;(.rw[fO];exact c6.h.rp eb.h k.h 0);(.rw[fO,oI.h,sF.h];rfl);.rw[F8];exact l.h.e3 ((H.refl [x aA.heap+1] f).setCell (p:=kb aA 1 0) (aM a8) (q c (av+1) d)) a3);exact bc):=h
def a0A(h:p:=by clear cy dj e7;refine ba 17 λdj cy=>?_;refine jp u _ _ _ u (mx::(x A.heap+1)::a0) (x cm.heap) 40 (aO #[q F 0 0,q F 0 0,ag 0,q F 0 0,ag 0]) 5 88 sG rh u bi (q ea av cE) _ (c6.ae.I (gD.aa hr)) av py _ (f1 {r with aE:=l8 r.aE}) u (by show cw _ _ [aI r.aC,aI r.aG,.int r.bu,e6 (l8 r.aE).ao,.int (l8 r.aE).aV] _;exact a1e) (λg aL=>H9) Ha m m u u u ?_;intro x8 fo z4 hu;have z5:=y (c6.rp (gD.aa hr) hu 1);obtain⟨⟨a,a⟩,a,a⟩:=b8 (c6.lv (gD.aa hr) hu);have ka:=y (λbv=>Hb:k7∉aF (q ea av cE));have fb:=hu.a9.aJ fb ka;have g1:=hu.a9.aJ g1 ka;have g2:=hu.a9.aJ g2 ka.h;have gm:=hu.a9.aJ gm ka.h;exact a1f):=h
def GX(h:p:=by obtain⟨D,E,h,_,F,G⟩:=bY (wZ.h.a.I dZ.h) f0;subst h;obtain⟨c,i,l,n⟩:=ck (λ(o:bS 0 s.ak[k] (j am - 1)=false)=>show bG=(-1,false)by rw[jy.h,sT.h k f0 o]) (λp=>yM (f:=λr=>bS 0 r (am.length - 1)) f0 mI.h p) (fX s.ak k f0) (show j (b6 ((s.ak.take k).map λt=>aP am (bw t) 0))=k by rw[cP];simp;omega);generalize s.ak[k]=b at*;by_cases d:b<0;(.have fe:=y (c.h (r1 (aM d)));exact Cb);by_cases v:(j am:Int)<=b;(.have fe:=y (c.h (r1 (bj m)));exact Cb);obtain⟨a,rfl⟩:=dB (show 0<=b by omega);(have e:a<j am:=m);obtain⟨H,I,w,_,J,K⟩:=bY (gu.h.I dZ.h) e;subst w;obtain⟨z,A⟩:=aq (i.h (mM m m)) (show aP am ((a:Int)).toNat 0=am[a]by simp[e]);generalize am[a]=g at*;clear d v;go_wp2_with(first|(at_builtin;refine g9 u _ _ 34 u [] (x wc.heap) 3 (C B 0) 1 8 f7 eZ u bi (q ea k cE) _ bZ.h k n.h #[C B g] [.int g] u ⟨u,bA⟩ a8 m m m u u u ?_;intro c d a a;have b:=y a;clear a));go_roundw;(.refine⟨k+1,c,d,m,bf,u,b.h.bn bZ.h hs.h,?_,z.h⟩;rw[l.h,fO,h0,mh,A.h,ql];exact b.h.ae);exact bc):=h
def TE(h:p:=by go_simp;refine aW cy bq λb=>?_;clear cy dj fF;refine ba 3 λdj cy=>?_;go_simp;go_at_call 61;refine ad (L7 _ ap.drew) ?_;rintro d c⟨e,f,i,j,rfl,a,Ex:aj _⟩;have hr:=y (ap.drew.aa a:H [] cb c);have c:=hr.size;obtain⟨c,c,c,c,c,c⟩:=hr.fo L6 d6 db eL pE AD;clear a;go_simp;refine aW cy bq λfF=>?_;clear cy dj b;refine ba 4 λdj cy=>?_;go_simp;exact a1g):=h
def a0n(h:p:=by refine a4 0 105 ?_;refine a4 1 106 ?_;refine a4 2 107 ?_;refine a4 3 108 ?_;refine a4 4 109 ?_;refine a4 5 110 ?_;refine a4 6 111 ?_;refine a4 7 112 ?_;refine a4 8 113 ?_;refine a4 9 114 ?_;refine a4 10 115 ?_;refine a4 11 116 ?_;refine ba 12 λd a=>?_;go_simp;go_at_call 208;refine ad (tj.h _ ap.drew) ?_;rintro l e⟨rfl,c⟩;have gD:=y (show H [] ht e from ap.drew.aa c);clear c;go_simp;refine aW a a1h λf=>?_;clear a d e7;refine a4 13 118 ?_;refine a4 14 119 ?_;refine a4 15 120 ?_;refine a4 16 121 ?_;refine a4 17 122 ?_;refine a4 18 123 ?_;refine a4 19 124 ?_;refine a4 20 125 ?_;refine a4 21 126 ?_;refine a4 22 127 ?_;refine a4 23 128 ?_;refine a4 24 129 ?_;refine a4 25 130 ?_;refine a4 26 131 ?_;refine ba 27 λg a=>?_;go_simp;go_at_call 208;refine ad (uZ.h _ gD.h) ?_;rintro n i⟨rfl,d⟩;have jP:=y (show H [] ht i from gD.h.aa d);clear d;go_simp;refine aW a P5 λc=>?_;clear a g f;refine a4 28 133 ?_;refine a4 29 134 ?_;refine a4 30 104 ?_;refine cK ?_;clear c;go_wp2;go_roundw;(.exact⟨k+1,G (hM.ae.take (j b.b4),hM.bn.take (j b.b4)),m,bf,hs.h.aa (pW.h.aa jP.h),nc.h.symm,bj ⟨i1,hM,z1,Ox,Nat.succ_pos _,u,Cn.h.I jP.h,Oy,u,rg,Cm⟩⟩);exact bc):=h
def a0m(h:p:=by refine a4 0 105 ?_;refine a4 1 106 ?_;refine a4 2 107 ?_;refine a4 3 108 ?_;refine a4 4 109 ?_;refine a4 5 110 ?_;refine a4 6 111 ?_;refine a4 7 112 ?_;refine a4 8 113 ?_;refine a4 9 114 ?_;refine a4 10 115 ?_;refine a4 11 116 ?_;refine ba 12 λc a=>?_;go_simp;go_at_call 208;refine ad (tj.h _ ap.drew) ?_;rintro j d⟨rfl,b⟩;have gD:=y (show H [] ht d from ap.drew.aa b);clear b;go_simp;refine aW a a1h λe=>?_;clear a c e7;refine a4 13 118 ?_;refine a4 14 119 ?_;refine a4 15 120 ?_;refine a4 16 121 ?_;refine a4 17 122 ?_;refine a4 18 123 ?_;refine a4 19 124 ?_;refine a4 20 125 ?_;refine a4 21 126 ?_;refine a4 22 127 ?_;refine a4 23 128 ?_;refine a4 24 129 ?_;refine a4 25 130 ?_;refine a4 26 131 ?_;refine ba 27 λf a=>?_;go_simp;go_at_call 208;refine ad (uZ.h _ gD.h) ?_;rintro k i⟨rfl,c⟩;have jP:=y (show H [] ht i from gD.h.aa c);clear c;go_simp;refine aW a P5 λb=>?_;clear a f e;refine a4 28 133 ?_;refine a4 29 134 ?_;refine a4 30 104 ?_;refine cK ?_;clear b;exact a1i):=h
def YS(h:p:=by obtain⟨x,z,rfl,_,A,o⟩:=bY (O0.h.a9 wY a3) f0;have q:=YQ.h _ (dV f0);have d:=y (YN (ae:=jz) f0);obtain⟨a,h⟩:=dB (a3:0<=cf[k]);(have r:a<j b.ae:=a3);(have e:a<j ((cf.take k).foldl k8 jz):=by rw[nh.h];exact r);have s:=NZ (cf.take k) jz 0 (YP.mono m) (m:(0:Int)<=1000000000000) _ (dV e);obtain⟨f,D,c,E,F,I,J⟩:=aL.f.jz.gw e;have i:=y (YM e);(have t:j (cf.take k)=k:=aB);rw[t]at s;rw[h]at o d;rw[i.h]at d;obtain⟨l,u⟩:=aq (λv=>by have g:=tc.h;rw[c]at g⊢;exact eN.uP g a v:∀g,eN a0 aA (bX wr (bs f a) (C B g)) p n aG bO {b with ae:=((cf.take k).foldl k8 jz).set a g} ho mX ly (a1 gU bO gN) gW gx (a1 (aX eH 0) b.bn C0)/\bQ a0 wr (bX wr (bs f a) (C B g))) (λK=>ap.setCell (aM (by rw[c];simp[aF,Value.ownBlock])) _:∀w,H (aF gx) wr (bX wr (bs f a) (C B w)));rw[c,nh.h]at O1;clear aL wY C1 q i h c;generalize((cf.take k).foldl k8 jz)[a]=c at*;go_wp2;go_roundw;(.exact⟨k+1,m,bf,by rw[d.h];exact(l.h (c+1)).1,hs.h.then (u.h (c+1)),l3.h.trans (l.h (c+1)).2⟩);exact bc):=h
def Wi(h:p:=by refine m2 cy Hs λi=>?_;refine ba 8 λk a=>?_;go_simp;go_at_call 254;refine(L9 (a0:=[]) _ rv (j am:Int) _ (eA.h.I (bW z)) m eT).mono λl n c=>?_;obtain⟨d,p,r,s,rfl,o,z⟩:=us z c;go_simp;refine m2 a Hs λt=>?_;refine ba 9 λv e=>?_;go_simp;go_at_call 139;refine ad (it.h bl bm qh h7 _ _ _ (am++rM) (uB++pO) d b ea cE _ FM (gY.h _ (bW z)) (gu.h.I (bW z)) (fA z 0) (fA z 2) (fa.h.I (bW z)) sS.h aB aB m) ?_;rintro w x⟨fG,mC,pJ,pK,rfl,f,g⟩;have z:=nS z f g;go_simp;refine m2 e Hs λa=>?_;exact a1j):=h
def Tp(h:p:=by go_simp;refine aW cy bq λe7=>?_;clear cy dj fF;refine ba 4 λdj cy=>?_;go_simp;refine aW cy bq λc=>?_;clear cy dj e7;refine ba 5 λdj cy=>?_;refine jp u _ _ _ u (dr::ec::bM::m3) (x aA.heap) 47 (aO #[ag 0,ag 0,ag 0,q F 0 0,q F 0 0]) 5 72 lo kW u bi (q ea mz cE) _ (c6.ae.I eb) mz uk _ (dC (cu 14 v)) (jU _) (i8.enc ⟨my sH.a λg aL=>aM (mA g aL),my sH.k λg aL=>aM (mA g aL)⟩) (λg aL=>Es) Et m m u u u ?_;intro a a a a;obtain⟨b,_⟩:=c6.lv eb a;obtain⟨⟨d,d⟩,d,d⟩:=b8 b;have yg:=y (c6.push eb (cu 14 v) a);clear a b;simp only[w5,jT,kL];refine aW cy bq λe7=>?_;clear cy dj c;refine a4 6 27 ?_;exact a1k):=h
def a0l(h:p:=by refine a4 0 105 ?_;refine a4 1 106 ?_;refine a4 2 107 ?_;refine a4 3 108 ?_;refine a4 4 109 ?_;refine a4 5 110 ?_;refine a4 6 111 ?_;refine a4 7 112 ?_;refine a4 8 113 ?_;refine a4 9 114 ?_;refine a4 10 115 ?_;refine a4 11 116 ?_;refine ba 12 λc a=>?_;go_simp;go_at_call 208;refine ad (tj.h _ ap.drew) ?_;rintro e d⟨rfl,b⟩;have jP:=y (show H [] ht d from ap.drew.aa b);clear b;go_simp;refine aW a P5 λb=>?_;clear a c e7;refine a4 13 118 ?_;refine a4 14 119 ?_;refine c5 15 120 ?_;refine c5 16 121 ?_;refine c5 17 122 ?_;refine c5 18 123 ?_;refine c5 19 124 ?_;refine c5 20 125 ?_;refine c5 21 126 ?_;refine c5 22 127 ?_;refine c5 23 128 ?_;refine c5 24 129 ?_;refine c5 25 130 ?_;refine c5 26 131 ?_;refine c5 27 132 ?_;refine c5 28 133 ?_;refine a4 29 134 ?_;refine a4 30 104 ?_;refine cK ?_;clear b;exact a1i):=h
def TF(h:p:=by go_simp;exact a1g):=h
def UJ(h:p:=by refine aW cy (ix z) λo=>?_;refine dl 9 44 ?_;refine gp 10 λp e=>?_;go_simp;refine aW e (ix (fu z (ap.alloc _))) λs=>?_;refine gp 11 λt f=>?_;refine uf (aS:=f1 (.mk r.bT.aC [] r.bT.bu fG)) AX z 0 u ⟨l0 (os:=[⟨40,5,.slice ea av cE,ws.map f1⟩]) 0 (jr z 2),a6.nil _ _ _ _ 0 m,u,l0 0 (jr z 1),u,bA⟩ m (λb l2 v c y=>?_) u F4;refine aW f (ix c) λB=>?_;refine dl 12 47 ?_;have d:=rl (rl (m1 (l1:=[(dd l,.slice jG l.length e2)]) c a8) UH) fv;obtain⟨⟨C,D⟩,E,F⟩:=b8 d.h.c.n7;refine pS λG g=>?_;go_simp;refine nv g bA ?_;refine pD ?_;have j:=rm (Ah d (nT UF h6) cD.h m (q b (av+1) l2)) h6;go_wp2;go_roundw;(.refine⟨av+1,ws++[.mk r.bT.aC [] r.bT.bu fG],b,l2,m,bf,F5,?_,?_⟩;(.intro k n;rcases cI.1 n with a|a;(.exact j6.h k a);.rw[kG]at a;subst a;exact⟨r,UG.h,u,u,u,UI,mC⟩);.rw[n9];exact j.h);exact bc):=h
def Tr(h:p:=by go_simp;refine aW cy bq λc=>?_;clear cy dj e7;refine ba 5 λdj cy=>?_;refine jp u _ _ _ u (dr::ec::bM::m3) (x aA.heap) 47 (aO #[ag 0,ag 0,ag 0,q F 0 0,q F 0 0]) 5 72 lo kW u bi (q ea mz cE) _ (c6.ae.I eb) mz uk _ (dC (cu 15 v)) (jU _) (i8.enc ⟨my sH.a λg aL=>aM (mA g aL),my sH.k λg aL=>aM (mA g aL)⟩) (λg aL=>Es) Et m m u u u ?_;intro a a a a;obtain⟨b,_⟩:=c6.lv eb a;obtain⟨⟨d,d⟩,d,d⟩:=b8 b;have yg:=y (c6.push eb (cu 15 v) a);clear a b;simp only[w5,jT,kL];refine aW cy bq λe7=>?_;clear cy dj c;refine a4 6 48 ?_;exact a1k):=h
def Fy(h:p:=by have a:lJ ce<0:=xR ll;exact a1l):=h
def US(h:p:=by obtain⟨c,p,rfl,a⟩:=hrel;obtain⟨wx,rfl⟩:∃wx:a5,wx=wr:=⟨_,u⟩;obtain⟨b,q,r,t,v,w⟩:=h1 (y a) (a.a2 e5) (a.a2 dE) (a.a2 sW) (a.a2 ux) (a.a2 UR);clear a;by_cases a:c<j s.a7;(.obtain⟨x,z,e,g,rfl,A,B,h,k,d⟩:=ki l4.h a;have C:=lK a;generalize s.a7[c]=l at*;have D:=b.h.a2 h;have E:=b.h.a2 k;have n:=y (it.h l e g f wx m m (d.I b.h));clear d;go_upto_region 10 with(first|(go_at_call 231;refine ad n.h ?_;rintro F G⟨o,rfl,d:aj _⟩;cases o));(.go_wp2;go_roundw;(.exact⟨c+1,m,bf,b.h.aa d.h⟩);exact bc);.go_wp2;go_ret;exact⟨true,u,cj.h.aa ((ca.h.aa b.h).aa d.h)⟩);. (obtain rfl:c=j s.a7:=m);go_wp2;go_roundw;(.exact⟨av+1,m,bf,ca.h.aa b.h⟩);exact bc):=h
def JE(h:p:=by skip;have i:=y (λc(k:0<=c)(n:c<b)=>it.h c k n);(have r:eQ (b - 2).toNat<=xO:=JC);go_wp2_with fail;refine ad (Ri eA.h fa.h _ am t b ow.h cZ ph.h hp jX lT.h m m m i.h m) ?_;rintro s o⟨a,z,e,f,rfl,g,d,p,_,B,h⟩;obtain⟨c,i,k⟩:=bb d (show a6 (aQ (x A.heap+2)) o (c3 a.a7) (q e (j a.a7) f)from h.sub (eK m)) (show nN l (b5 aD) am t b a from⟨g,λn=>absurd n m⟩);obtain⟨⟨dL,ew,ej⟩,n,n,n⟩:=d.h;clear d p h g dE hE;go_wp2;refine cl (v:= .agg #[.int .i64 a.af,.int .i64 a.an,.slice e a.a7.length f]) a1m u (c.h.post i.h k.h m)):=h
def Ry(h:p:=by skip;rw[ji];clear ji JF;have i:=y (λc(k:0<=c)(n:c<b)=>it.h c k n);go_wp2_with fail;refine ad (JB eA.h fa.h _ am t b fc.h cZ A1.h hp jX lT.h m m m i.h A0) ?_;rintro s o⟨a,z,e,f,rfl,g,d,p,_,r,h⟩;rw[<-tR.h]at r;obtain⟨c,i,k⟩:=bb d (show a6 (aQ (x A.heap+2)) o (c3 a.a7) (q e (j a.a7) f)from h.sub (eK m)) (show nN l (b5 aD) am t b a from⟨g,λn=>absurd n m⟩);obtain⟨⟨dL,ew,ej⟩,n,n,n⟩:=d.h;clear d p h g kr iQ;go_wp2;refine cl (v:= .agg #[.int .i64 a.af,.int .i64 a.an,.slice e a.a7.length f]) a1m u (c.h.post i.h k.h m)):=h
def Bn(h:p:=by (have b:¬lJ ce<0:=Mj);go_wp2_with fail;refine ad (q2 (a0:=cm.heap.size::List.range (A.heap.size+2)) ce _ _ ⟨_,_,u,nk.h⟩) ?_;rintro c f⟨rfl,a⟩;obtain⟨b,g⟩:=aq (ju.h.I a) (l5.h.I a);obtain⟨c,d,⟨h,h,h⟩,_,e⟩:=g.h.cells;have g:=y (e.tail:a6 (aQ (x A.heap+2)) f (c3 ce.a7) (a1 c ce.a7 d));obtain⟨⟨d6,db,eL⟩,f,f,f⟩:=b.h.h;have f:=y (⟨qD.h,ll⟩:bI l (b5 aD) dY ce dm/\da ce<=30);clear a e;go_wp2;refine cl (v:= .agg #[.int .i64 ce.af,.int .i64 ce.an,a1 c ce.a7 d]) Bp u (b.h.post g.h f.h m)):=h
def a0B(h:p:=by have gm:=hu.a9.aJ gm ka.h;exact a1f):=h
def ZU(h:p:=by have d:=y (λa(b:H [] wr a)=>show aR aK 151 #[aO #[q bl (j n.ai) bm,q bP (j n.ah) bE],C B s.af,C B s.an,q ea (j dx) cE] a (eO a bG)from by have:=GR n bl bm bP bE s.an (q ea (j dx) cE) dx a (fa.h.I (dZ.h.aa b)) (H1.h.I b) H2 s.af k6.h.bE tg.1 tg.2;exact Ca);clear k6 it;go_wp2_with(first|(go_at_call 45;refine ad (jn _ _) ?_;rintro e h⟨rfl,rfl⟩;rw[ie])|(go_at_call 151;refine ad (d.h _ bd) ?_;rintro e g⟨rfl,c⟩;have f:=y (show H [] wr g from H.aa bd c);clear c));go_ret2;exact eO.mk' u (dZ.h.aa f.h)):=h
def Uv(h:p:=by refine aW cy nX λc=>?_;refine gp 10 λd cy=>?_;go_simp;go_at_call 105;refine ad (it.h bl bm qh h7 _ _ (am++d5) rC wt LQ LR _ m (gY.h.I (bW z)) (fA z 3) (fA z 2) (ws.h.I (bW z)) yp.h aB m) ?_;rintro e f⟨fG,mC,pJ,pK,rfl,a,b⟩;have z:=nS z a b;go_simp;refine aW cy nX λa=>?_;obtain⟨⟨a,a⟩,a,a⟩:=b8 z.h.c.n7;refine pS λa cy=>?_;go_simp;have z:=Eg z ut rD (q pJ (j fG.ao) pK) (C B fG.aV);exact Uu):=h
def Wh(h:p:=by refine m2 cy Hs λa=>?_;exact a1j):=h
def a0k(h:p:=by rw[oS]at uY;have nc:=y (show l4=F by rw[<-qQ.h,x3.h,uK.h,oS]);clear oS x5 x6 Ck;go_wp2_with(first|(go_at_call 77;refine ad qT.h ?_;rintro d i⟨rfl,a,f⟩;have e:=y a;obtain⟨j,k,g,_⟩:=qR.h _ a.a9;have l:=(a.a9.a2 Cl.h);clear a f g)|(go_at_call 78;refine ad (uY.h _ e.h) ?_;rintro d m⟨rfl,c,h⟩;have b:=y (o5.h.aa c);clear c h));(try go_ret);exact pQ.h _ (nt.h.aa b.h) (bQ.dW b.h hH.h) P6):=h
def XK(h:p:=by have c:=Nh.h.bt;have b:a6 (aF (q (G (bs cR 0)) (j n.ah) hK)++fd) rU (dd n.ai) (q mb (j n.ai) mc):=Ng.h.a9 jP.h (λd a=>aM (by simp at a;subst a;simp[aF,Value.ownBlock]));exact((⟨b.sub a3,by grind[a6,q4,List.length_set]⟩:cx fd rU ⟨n.ai,n.ah.set f {r with aG:=lE}⟩ mb mc (G (bs cR 0)) hK).e3 wU (λa a=>aM (by rw[gX.h];simp at a;simp[a]))).sub (λa a=>aM (by rw[gX.h];exact gb _ a))):=h
def TI(h:p:=by go_wp2_with(at_builtin;refine g9 u _ _ _ u a0 (x A.heap) 3 (ag 0) 1 8 f7 eZ u bi (a1 ea gP cE) (b6 gP) bZ (j gP) (cP _) _ [.int aS] u ⟨u,bA⟩ (λa b=>dF (cD a b) (ca.aa ap).size) (ca.aa ap).size m m u u u ?_;intro a a a a;have ED:=y a);exact TK):=h
def Ze(h:p:=by (have a:j (oQ++[(k:Int)])=j oQ+1:=a8);refine⟨k+1,ub,uc,yV,mm,cH,m,bf,by rw[mK.h,a],u,yY.h.bn bZ.h hs.h,by rw[mK.h,a,ql];exact yY.h.ae,by rw[mK.h,a];exact E6 yW.h yY.h.a9 yY.h.dA,C5.h,yX.h.no (λa=>by have:=a.2;rw[C7.h]at this;exact Bool.noConfusion this),Oe⟩):=h
def Wm(h:p:=by obtain⟨a,a,a,a,_⟩:=lr z h6;obtain⟨⟨P7,P8⟩,a,a⟩:=b8 (((bW z).block (x A.heap+2) m a8).trans c0.h.ep);go_wp2;exact cl a1n u (AW (mL:=dX++[cu 14 bM]) c0.h.a9 jb (λa b2=>rE) z a8 a8 (by rw[bL,iU,ry,LN];omega))):=h
def OI(h:p:=by show cw _ _ [aI r.aC,aI r.aG,.int r.bu,e6 (l8 r.aE).ao,.int (l8 r.aE).aV] _;exact a1e):=h
def Sd(h:p:=by intro g d a b;obtain⟨e,f,c⟩:=a.cv;rw[eV,gI,jV]at c;subst c;refine k e f d ⟨a,(A8.cn (cY:=aF eS)).then b.a9,λa c=>?_⟩;rcases b.dA with a|a;(.grind[aF]);.refine bj ?_;simp only[aF,a,Kh,kG,hq]at c;omega):=h
def Wl(h:p:=by have a:=fv;obtain⟨b,b,b,b,_⟩:=lr a h6;obtain⟨⟨P7,P8⟩,b,b⟩:=b8 (((bW a).block (x A.heap+2) m a8).trans c0.h.ep);go_wp2;exact cl a1n u (AW c0.h.a9 jb (λb b2=>rE) a u u (by rw[bL];omega))):=h
def Qi(h:p:=by exfalso;rw[j4]at b2;split at b2;(.omega);.rename_i c;(have b:ip am (.mk af an b1 ak a7)=true:=a3);simp only[ip,b7.a7,b7.af,fH,D9,Da]at b;rcases b.2 with(a|a)|a;(.cases a7 with|nil=>grind|cons d e=>simp at a);(.grind);.grind):=h
def a0I(h:p:=by refine⟨o,by rw[h0,mf,p1];exact oe,by simpa using ss,λa h2=>?_⟩;rw[po a tn,g,OP];by_cases cT:d=(a:Int);(. have b:bw d=a:=m;subst cT;simp;omega);. have b:¬bw d=a:=m;have c:(d==(a:Int))=false:=xn;rw[be b,c];simp):=h
def Tg(h:p:=by (try dsimp only);(have a:=(H.refl [x cm.heap+1] jM).setCell (p:=kb cm 1 1) (aM a8) (q hZ (av+1) ey);exact⟨a.aJ gW aB,a.aJ gx aB,a.aJ hY aB,a.aJ yd aB,a.aJ ye aB,a.aJ yf aB⟩)):=h
def VQ(h:p:=by obtain⟨⟨d6,db,eL⟩,a,a,a⟩:=mF.h;exact a1c):=h
def Uc(h:p:=by (try dsimp only);(have a:=(H.refl [p] jM).setCell (p:=bs p 0) (aM a8) (q hZ (j dX+1) ey);exact⟨a.aJ dL aB,a.aJ ew aB,a.aJ ej aB,a.aJ pu aB,a.aJ sE aB⟩)):=h
def TV(h:p:=by go_wp2_with(go_at_call 236;refine ad (TJ (a0:=a0) AH ly ru rv wc (sJ.h.I cj.h) (Lj.h.I cj.h) Li cD.h) ?_;rintro f g⟨a,b,c,rfl,d:aj _,e:aj _⟩);go_ret;exact⟨a,b,c,u,cj.h.aa d.h,e.h.dH jb⟩):=h
def S5(h:p:=by rw[xV]at n3;go_wp2_with(first|(go_at_call 107;refine ad (gG _ _ _ _) ?_;rintro a b c;obtain⟨rfl,rfl⟩:=qi _ _ c)|(go_at_call 160;refine ad n3 ?_;rintro a b⟨rfl,d,rfl⟩));go_ret;exact⟨eD (by rw[xU.h,xV];rfl),gD.drewN _⟩):=h
def QF(h:p:=by exact⟨k+1,xE,_,m,bf,fk.snoc f0 xF,bZ.grow iq xH qe,(xG.I (ap.alloc _)).a9 qe.a9 (λbM bv=>DG),m,qe.tG (a6.alloc (tH rb en iq) _) (λg aL=>j2)⟩):=h
def Tq(h:p:=by refine ba 7 λdj cy=>?_;exact a1o):=h
def ZR(h:p:=by refine a4 15 173 ?_;refine a4 16 174 ?_;refine c5 17 175 ?_;refine c5 18 176 ?_;refine c5 19 177 ?_;refine c5 20 178 ?_;refine c5 21 179 ?_;refine c5 22 180 ?_;refine a4 23 181 ?_;refine cK ?_;clear e7;go_wp2;go_ret2;exact eO.mk' fe.h kB.h.drew):=h
def Vq(h:p:=by(refine y (a6.I ?_ eM);(repeat(first|with_reducible refine a6.drew ?_|((with_reducible refine Vk ?_ ?_ ?_ ?_)<;>(first|(simp;done)|omega|(intro a a;simp at a;(try simp);omega)|fail))|with_reducible refine a6.alloc ?_ _|fail)));first|done|fail):=h
def a1V(h:p:=by (try dsimp only);(have a:H [] lS (aY lS (au #[a1 vs r.aC fM,a1 tE r.aG dG,ag r.bu,q z3 (l8 r.aE).ao.length e8,ag (l8 r.aE).aV] 40)):=ap.alloc _;exact⟨a.a2 fb,a.a2 g1,a.a2 g2,a.a2 gm,a.a2 gV⟩)):=h
def Zd(h:p:=by go_wp2;go_roundw;(.refine⟨k+1,px,rL,yV,mm,cH,m,bf,by rw[mK.h],u,hs.h,by rw[mK.h];exact bZ.h,by rw[mK.h];exact yW.h,C5.h,yX.h.no (λa=>a.1 kx.h),Oe⟩);exact bc):=h
def Se(h:p:=by intro g d a b;obtain⟨e,f,c⟩:=a.cv;rw[eV]at c;subst c;refine k e f d ⟨a,b.a9,λa a=>?_⟩;rcases b.dA with a|a;(.grind[aF]);.grind[aF,Option.toList_some,List.mem_singleton]):=h
def Kx(h:p:=by rcases cI.1 aL with a|a;(.exact hA _ (kX.2 ⟨_,sc h2,a⟩));.exact(cI.1 a).elim (λa=>hA _ (Kv a)) (gQ _)):=h
def Rx(h:p:=by(refine y (a6.a9 ?_ eM (hg en));(repeat(first|((refine hw [cG] ?_ ?_ a8)<;>(first|(simp;done)|(intro a b;have:=fc.h.g3.fL a b;simp;omega)|fail))|refine a6.drew ?_|refine a6.alloc ?_ _|fail)));first|done|fail):=h
def Rp(h:p:=by(refine y (a6.a9 ?_ eM (hg en));(repeat(first|((refine hw [0,0] ?_ ?_ a8)<;>(first|(simp;done)|(intro a b;have:=tN.g3.fL a b;simp;omega)|fail))|refine a6.drew ?_|refine a6.alloc ?_ _|fail)));first|done|fail):=h
def Rt(h:p:=by(refine y (a6.a9 ?_ eM (hg en));(repeat(first|((refine hw [0,0] ?_ ?_ a8)<;>(first|(simp;done)|(intro a b;have:=tP.g3.fL a b;simp;omega)|fail))|refine a6.drew ?_|refine a6.alloc ?_ _|fail)));first|done|fail):=h
def RL(h:p:=by go_wp2;go_roundw;(.exact⟨k+1,z - j d.cons,m,bf,bf,by rw[fa.h];have:=A3.h;omega,λav a=>HR,ca.alloc _⟩);exact bc):=h
def Zf(h:p:=by (obtain rfl:k=j ak:=m);go_wp2;go_ret2;have a:x A.heap<=x wc.heap:=cj.h.size;exact⟨px,rL,yV,mm,cH,u,dZ.h,(RF bZ.h).older a,yW.h.sub bq,yX.h,C6.h⟩):=h
def Rw(h:p:=by(first|exact JD.h.I cZ|(repeat(first|((refine hw [cG] ?_ ?_ a8)<;>(first|(simp;done)|(intro a b;have:=ig.h.g3.fL a b;simp;omega)|fail))|refine a6.drew ?_|refine a6.alloc ?_ _|fail)));first|done|fail):=h
def Rq(h:p:=by(first|exact zZ.I cZ|(repeat(first|((refine hw [0,0] ?_ ?_ a8)<;>(first|(simp;done)|(intro a b;have:=ig.g3.fL a b;simp;omega)|fail))|refine a6.drew ?_|refine a6.alloc ?_ _|fail)));first|done|fail):=h
def Zc(h:p:=by exact⟨0,F,0,F,0,[],el _,u,u,u,ap,aU.nil _ _ _ _ _,(aU.nil _ 0 _ 3 1).bt,List.Pairwise.nil,λa=>⟨a3,λ⟨b,a,_⟩=>absurd a (Nat.not_lt_zero _)⟩,cF _⟩):=h
def Mu(h:p:=by have a:=(SO (jL z 3) By fv).h;simpa only[eJ,et,KC,KD,fO,h0,mh,ql]using a):=h
def Yp(h:p:=by go_wp2;go_round;(.exact⟨k+1,m,m,bf,λa c d=>by rcases la a k with b|b;(.exact mI.h a c b);. (obtain rfl:a=k:=m);exact gY.h⟩);exact bc):=h
def Fq(h:p:=by((refine y (f5.I ?_ eM));(repeat(first|with_reducible refine f5.drew ?_|((with_reducible refine f5.new ?_)<;>(first|(simp;done)|fail))|with_reducible refine f5.alloc ?_ _|fail)));first|done|fail):=h
def RZ(h:p:=by go_wp2_with(go_at_call 107;refine ad (gG _ _ _ _) ?_;rintro b c a;obtain⟨rfl,rfl⟩:=qi _ _ a);go_quiet(fail);go_wp2;go_ret;exact⟨eD (by rw[xU.h];simp),ca.drewN _⟩):=h
def wz(h:p:=by(refine y (f5.I ?_ eM);(repeat(first|with_reducible refine f5.drew ?_|((with_reducible refine f5.new ?_)<;>(first|(simp;done)|fail))|with_reducible refine f5.alloc ?_ _|fail)));first|done|fail):=h
def Xt(h:p:=by have a:=mI.h;rw[k1 (m:j n.ah<=av)]at a;have b:=y (by rw[lQ.h,a];rfl:iy=true);clear a;go_wp2;go_ret;exact⟨cS b.h.symm,yH.h⟩):=h
def ZT(h:p:=by have:=GR n bl bm bP bE s.an (q ea (j dx) cE) dx aN (fa.h.I (dZ.h.aa ef)) (H1.h.I ef) H2 s.af k6.h.bE tg.1 tg.2;exact Ca):=h
def M4(h:p:=by refine y (dq.I ?_ eM);exact Vp):=h
def ND(h:p:=by go_enter Gn,Gp;go_wp2_with(go_at_call 145;refine ad wW.h ?_;rintro b c⟨rfl,a⟩;have b:=y a;clear a);go_ret;exact⟨cS c6.h.symm,b.h⟩):=h
def RC(h:p:=by have a:=bI.call (l:=l) (d0:=b5 aD) (am:=am) (f:=f) (a7:=dS) DL (by rw[DM.h];exact n1.1) (by rw[DM.h];exact n1.2);rw[ox.h]at a;exact a):=h
def VZ(h:p:=by rcases(m:cN=0\/cN=1\/cN=2\/cN=3\/cN=4\/cN=5)with rfl|rfl|rfl|rfl|rfl|rfl;all_goals exact FA cV _ _ bi bi bi bi bi bi):=h
def Ro(h:p:=by((repeat(first|((refine hw [1,2,3,4] ?_ ?_ a8)<;>(first|(simp;done)|(intro a b;have:=Jy.h a b;simp;omega)|fail))|refine a6.drew ?_|refine a6.alloc ?_ _|fail)));first|done|fail):=h
def TC(h:p:=by (have e:sI<x wc.heap:=by obtain⟨f,g,a,_,b,_⟩:=bY Ty w8;injection a with c;injection c with d _;rw[d];exact b);have a:=qr.fE.2.2;omega):=h
def PH(h:p:=by rw[bB ji]at p1 zr;refine⟨by rw[p1,zr];exact cy.ok,λa _=>?_,λa=>?_,λ_=>?_⟩;(.rw[p1]at a⊢;rw[zr];exact cy.val a);(.rw[p1]at a⊢;exact cy.jh a);.rfl):=h
def PR(h:p:=by refine⟨λa=>⟨[[],[]],F,a8,(CX.1 a).2⟩,λa=>?_,q8⟩;have b:=CX.2 a;rw[bB a];exact⟨b.2.1,λa a=>zx a,mj.1,mj.2,F,b.2.2⟩):=h
def Wg(h:p:=by go_roundw;(. have b2:=z.h;exact⟨k+1,uB++[aS],rN,m,bf,aB,Bv⟩);exact bc):=h
def SD(h:p:=by refine b2.aI (bH:=[]) λb a c=>?_;simp[aF,Value.ownBlock]at a;rcases cI.1 c with a|a;(.simp[aF,Value.ownBlock]at a;omega);.have:=cD b a;omega):=h
def T2(h:p:=by have a:=y (wi:iy=false);go_wp2_with(go_at_call 232;refine ad (n3.h _) ?_;rintro b c⟨rfl,rfl⟩);go_ret;exact⟨cS a.h.symm,cj.h⟩):=h
def Rm(h:p:=by skip;go_wp2_with(go_at_call 165;refine ad (Jx _ fc cZ) ?_;rintro a b⟨rfl,rfl⟩;rw[xN]);go_roundw;(.exact⟨av+1,m,bf,fc,lW⟩);exact bc):=h
def Ui(h:p:=by exact((sN.h.f.a9.aa wm.h).trans AT (λb c=>bj (sN.h.f.ae.lt b c).1)).trans rA.h (λd a=>bj (by simp at a;subst a;exact sN.h.f.fE))):=h
def Y8(h:p:=by go_wp2_with(go_at_call 147;refine ad (rf _ _ _ _ _) ?_;rintro a b⟨rfl,rfl⟩;first|rw[qN]|rw[gt]);exact BP):=h
def ZP(h:p:=by have fe:=y (show bG=(-1,false)by rw[c6.h,bB];simpa using h2);exact ZH):=h
def U2(h:p:=by exact⟨av+1,yk,m,bf,u,by rw[<-sK.h,wj.h,be (λa=>(EL.1 a).elim a3 a3)];rfl,m,U1.aa nV⟩):=h
def RA(h:p:=by have a:=fa.h.xB f DL cG (by simpa[b5]using kT);have:=eA.h.f9;exact⟨m,m,QP am (vE cG kT)⟩):=h
def Mb(h:p:=by have a:=cf.xB f sq cG VG;have:=cV.f9;exact⟨m,m,M7 kT⟩):=h
def UB(h:p:=by refine((aU.made a0 (x cm.heap) cm _ _ (cF _) fL).sub λb a=>?_).alloc _;rcases ek.1 a with rfl|c;(.simp_all);.grind):=h
def a0F(h:p:=by rw[sf]at b2;obtain⟨a,b,c⟩:=OL (λd e=>mD d (gb _ e)) m;exact⟨a,gb _ b,c⟩):=h
def Wd(h:p:=by go_wp2_with fail;go_meet;exact⟨_,_,_,u,z.h.1.alloc _,z.h.1.size,a8,VV (lz z 5) (lz z 4) (lz z 3) (lz z 2) (lz z 1) (lz z 0)⟩):=h
def XH(h:p:=by (try dsimp only);(have a:=(H.refl [cR] ht).setCell (p:=bs cR (f*5+1)) (aM a8) (a1 wT lE iE);exact a.aJ db aB)):=h
def Ja(h:p:=by have a:=dD (aY A (au #[a1 bl l bm,a1 bP aD bE] 126)) (au #[ag 0,ag 0,q F 0 0] 155);rwa [hq]at a):=h
def UA(h:p:=by have a:=(rl z fv).h;simpa only[eJ,et,fO,h0,mh,ql]using a):=h
def Q1(h:p:=by intro c b;rcases cI.1 b with a|a;(.obtain⟨d,_,rfl⟩:=iJ.1 a;rfl);.obtain⟨d,_,rfl⟩:=iJ.1 a;rfl):=h
def TP(h:p:=by exact⟨k+1,m,bf,by rw[Ld.h,k6.h,Le.h];rfl,ca.aa (by exact⟨u,u,u,cF _,λ_ _ _=>u⟩)⟩):=h
def TR(h:p:=by go_roundw;(.exact⟨k+1,gP,m,bf,m,(bZ.h.I (ap.aa EG.h)),ca.h.aa (ap.aa EG.h)⟩);exact bc):=h
def Y3(h:p:=by have a:=y (a3:f8 l f t k=false);go_wp2;go_roundw;(.exact⟨k+1,m,bf,xc.h a.h,kB.h _⟩);exact bc):=h
def XG(h:p:=by (have b:g<x ij.heap:=by rcases cI.1 aL with a|a;(.exact(t7.h.lt g a).2);.have:=mA.h g a;omega);exact b):=h
def x0(h:p:=by go_wp2_with(go_at_call 45;refine ad (jn _ _) ?_;rintro a b⟨rfl,rfl⟩;rw[ie]);go_ret2;exact eO.mk' fe.h dZ.h):=h
def Vw(h:p:=by exact(a6.I (vC (aS:= .mk 4 0 [.mk 0 0 [],.mk 12 0 []]) Mc.h pN.h jc.h (λa aL=>kq)) cZ)):=h
def RY(h:p:=by go_wp2_with(go_at_call 107;refine ad (gG _ _ _ _) ?_;rintro a b⟨rfl,rfl⟩;rw[p6]);go_ret;exact⟨u,ca⟩):=h
def a06(h:p:=by (try go_ret);exact pQ.h _ hL.h ((bQ.dW cj.h hH.h).trans (Oq.h.less a3)) Os):=h
def Mq(h:p:=by(repeat(first|with_reducible exact kA.h|with_reducible refine H.drew ?_|with_reducible refine H.alloc ?_ _|fail));first|done|fail):=h
def Lg(h:p:=by (obtain rfl:k=j s.ak:=m);go_wp2;go_ret;exact⟨gP,m,_,u,cj.h.aa ca.h,bZ.h.dH jb⟩):=h
def TB(h:p:=by rcases cI.1 h3 with a|a;(.exact nc aS a);.rw[kG]at a;subst a;exact⟨nd,w7,AE⟩):=h
def a1T(h:p:=by exact(a6.I (vC (aS:= .mk 12 (a:Int) []) (i2 sY) jc.h pN.h (λb aL=>kq)) cZ)):=h
def a0L(h:p:=by have a:=xv (hv s Ct).1 (hv s Ct).2;have b:=fr a.2.1;have a:=b2.ml;exact⟨(hv s Ct).1,b.1,m⟩):=h
def Sh(h:p:=by have a:=gu.h;simp only[aI,a6]at a;obtain⟨b,c,d,_,_,e⟩:=a;cases cH with|nil=>rfl|cons f g=>grind):=h
def a0e(h:p:=by go_wp2;go_meet;exact⟨u,⟨_,_,(by rw[<-uW.h]),rB.h⟩,u,u,u,u,u,kA.h,Ci.h,m⟩):=h
def VJ(h:p:=by exact(a6.I (vC (aS:= .mk 12 0 []) (i2 sY) jc.h pN.h (λa aL=>kq)) cZ)):=h
def Lh(h:p:=by go_roundw;(.exact⟨k+1,gP,m,bf,m,bZ.h.I iT.h,ca.h.aa iT.h⟩);exact bc):=h
def XN(h:p:=by have a:=gu.h;simp only[a6]at a;obtain⟨b,c,d,_,_,e⟩:=a;cases bD with|nil=>rfl|cons f g=>grind):=h
def Pf(h:p:=by obtain⟨⟨f,c,a⟩,_⟩:=cV;obtain⟨d,e,rfl,_⟩:=bF a;exact⟨b,iH,d,e,mj,f0,c,a⟩):=h
def EF(h:p:=by exact⟨0,[],el _,u,a8,aU.made a0 (x wc.heap) wc _ _ (cF _) cD.h,ap.alloc _⟩):=h
def Ua(h:p:=by refine(g8.a9 b2.a9 λa a=>aM (gQ _ ?_)).sub λa a=>aM ?_;(.grind);.grind):=h
def Ni(h:p:=by rcases cI.1 aL with b2|b2;(.exact bj SN);.exact aM b2):=h
def Yf(h:p:=by have:=(c6.h.ae 0 _ u).bt;rw[k1 (cF _)]at this;exact this.sub a8):=h
def a0W(h:p:=by refine cK ?_;clear fF;go_wp2;go_roundw;(.exact⟨k+1,m,bf,ca.h.aa hL.h⟩);exact bc):=h
def St(h:p:=by exact⟨0,el _,u,by simpa using aU.made a0 (x A.heap) A _ _ (cF _) cD,ap.alloc _⟩):=h
def RD(h:p:=by obtain⟨c,c,b,_⟩:=b2.q9;exact⟨a,du,xQ b,h3.a9 (H.g0 aN k _ _ _) a3⟩):=h
def Pk(h:p:=by go_wp2;go_round;(.exact⟨k+1,m,bf,xc (y (a3:f8 l f t k=false))⟩);exact bc):=h
def EB(h:p:=by exact⟨0,[],el _,u,a8,aU.made a0 (x A.heap) A _ _ (cF _) cD,ap.alloc _⟩):=h
def a0i(h:p:=by (try go_ret);exact pQ.h _ (nt.h.aa rA.h) (bQ.dW rA.h hH.h) P6):=h
def TH(h:p:=by subst h3;go_wp2;exact La):=h
def SS(h:p:=by rcases cI.1 ie with a|a;(.exact(fv.h.b c a).imp (gb _) id);grind):=h
def Vt(h:p:=by intro b c d a;exact k b c (b2.grow ef d a) (b2.grown (bH:=bH) a).1 (b2.grown (bH:=bH) a).2):=h
def Xr(h:p:=by go_roundw;(.exact⟨av+1,m,bf,by rw[N1.h];rfl,hs.h.aa eb.h⟩);exact bc):=h
def TD(h:p:=by exact⟨k+1,dX,RN++[s],_,m,bf,L3.1.more' ap a3,yi,aB,L2⟩):=h
def UT(h:p:=by (obtain rfl:av=j b.ao:=m);go_wp2;go_ret;exact⟨false,u,cj.h.aa ca.h⟩):=h
def Ya(h:p:=by clear uT yN;go_wp2;go_roundw;(. exact NC);exact bc):=h
def U9(h:p:=by rcases cI.1 aL with a|a;(.exact(b2.dA g a).imp a3 id);.exact aM a):=h
def Uh(h:p:=by rw[n9,show j (dX++[s])=j dX+1 by simp];exact pz.h.ae.a9 rA.h a3):=h
def a21(h:p:=by have a:=bZ.h.bt;rw[k1 (cF _),<-qO]at a;rw[hQ];exact a):=h
def a1D(h:p:=by obtain⟨c,d,a,b,e⟩:=a6.cv b2;rw[fC]at a b;exact⟨c,d,a,b,e⟩):=h
def GZ(h:p:=by have a:=mI.h;rw[k1 (cF _)]at a;rw[C9.h,bB a,qO]):=h
def HG(h:p:=by go_wp2;go_ret;exact⟨cS (by rw[<-mi.h,k1 m]),u⟩):=h
def Ut(h:p:=by first|exact rB.h.I (oG.aa ap.drew)|exact rB.h.I (oG.aa (ap.drew.alloc _))):=h
def Ma(h:p:=by have a:=cf.so f sq;simp only[b5,kc,jt.Bf]at a;exact a):=h
def XB(h:p:=by rw[uN];show j (r.aE.ao.take t6++cu 15 v::r.aE.ao.drop t6)=_;simp;omega):=h
def ME(h:p:=by rw[hX]at aL;rcases ek.1 aL with rfl|a;(.omega);.have:=cD.h g a;omega):=h
def a0j(h:p:=by cases a:bS 0 gk.aV (j ep.b4 - 1);(.simp only[a]at uX;simp at uX);.rfl):=h
def KH(h:p:=by go_roundw;(.exact⟨k+1,m,bf,by rw[Em.h];exact kx.h⟩);exact bc):=h
def Xs(h:p:=by go_ret;exact⟨cS (by rw[lQ.h,pQ.h a8];rfl),yH.h.aa eb.h⟩):=h
def ZF(h:p:=by exact⟨k+1,cX,G cX,m,bf,u,a3,λ_=>u,Bq.h,iq.h⟩):=h
def KL(h:p:=by rw[hX]at aL;rcases ek.1 aL with rfl|a;(.omega);.have:=cD g a;omega):=h
def MD(h:p:=by rcases xW bv with a|a;(.grind);.rw[a];simpa using kZ.length):=h
def EC(h:p:=by (obtain rfl:k=j l:=m);go_wp2;go_ret;exact⟨gP,m,_,u,ca,bZ⟩):=h
def Yw(h:p:=by (try dsimp only);(have a:=iT.h;exact⟨a.a2 e5,a.a2 dE,a.a2 kr,a.a2 yS⟩)):=h
def Yx(h:p:=by (try dsimp only);(have a:=hL.h;exact⟨a.a2 e5,a.a2 dE,a.a2 kr,a.a2 yS⟩)):=h
def MN(h:p:=by go_wp2_with fail;go_meet;exact⟨u,ap.alloc _,a8,fP,fP⟩):=h
def Z5(h:p:=by refine Z4 h2 (λa b=>?_) ?_ (λa b=>?_);(.grind);(.grind);.grind):=h
def VC(h:p:=by rw[sZ];exact Bk.h.set (aS:= .mk 6 1 [bH,.mk 9 (f:Int) dS]) a8 Mf.h):=h
def Ak(h:p:=by go_wp2_with fail;go_meet;exact⟨u,ap.alloc _,a8,dD A _⟩):=h
def Ga(h:p:=by have a:=BJ.bt;rw[<-qF]at a;rw[ks,gY.h];exact a):=h
def PZ(h:p:=by rintro(a|a|a);(.exact bj (aM a));(.exact aM a);.exact bj (bj a)):=h
def a0o(h:p:=by obtain⟨_,_,_,_,_,_,_,a⟩:=wR;have b:x z1.heap<=i1:=dz.fE a;omega):=h
def a1J(h:p:=by rcases hv.2 with⟨a,_⟩|⟨b,b,b,a,_⟩;(.simp at a);.grind):=h
def LD(h:p:=by rcases i0.h.dA _ bv with a|a;(.exact(m6.h i1 qj.1).2 a);.omega):=h
def nO(h:p:=by go_wp2_with fail;go_meet;exact⟨u,ap.alloc _,dD A _⟩):=h
def E8(h:p:=by rcases ek.1 aL with rfl|a;(.omega);.have:=cD g a;omega):=h
def pw(h:p:=by go_wp2_with fail;go_meet;exact⟨u,u,u,mr.mk' _ _ _ _ _ _ _⟩):=h
def zH(h:p:=by go_enter func158,ntmps158;go_wp2;go_ret;exact⟨u,u⟩):=h
def DQ(h:p:=by go_enter func154,ntmps154;go_wp2;go_ret;exact⟨u,u⟩):=h
def En(h:p:=by go_enter func232,ntmps232;go_wp2;go_ret;exact⟨u,u⟩):=h
def a23(h:p:=by simp[results,Tryz.results252,go_sem,dL,ew,ej,bo.af,bo.an,bo.a7]):=h
def OG(h:p:=by go_wp2_with fail;go_meet;exact⟨u,u,u,dv.mk' _ _ _ _ _⟩):=h
def M2(h:p:=by (try dsimp only);(have a:=hz.h;exact⟨a.a2 e5,a.a2 dE⟩)):=h
def ft(h:p:=by go_wp2_with fail;go_meet;exact⟨u,u,dv.mk' _ _ _ _ _⟩):=h
def K1(h:p:=by exact aM (hA _ (kX.2 ⟨p,po,aL⟩))):=h
def G9(h:p:=by exact((kB.h.then t5.h).aa dZ.h).trans n1 a3):=h
def GW(h:p:=by exact⟨0,_,_,el _,u,u,lW.h,s0.h,u⟩):=h
def a1P(h:p:=by first|exact ca.h|exact ca.h.drewN _|exact ca.h.drew):=h
def a1p(h:p:=by exact gb _ (gb _ aL)):=h
def F3(h:p:=by exact⟨0,[],_,_,el _,u,u,a8,cH.h⟩):=h
def KK(h:p:=by (try dsimp only);exact⟨e5,dE,hF,dL,ew,ej,pu,sE,na⟩):=h
def a26(h:p:=by (try dsimp only);exact⟨fb,g1,g2,gm,gV,Ao,Ap,Aq,Ar⟩):=h
def Mg(h:p:=by rw[<-Fn.h,sZ];exact Fi eA.h Fp.h Fo.h):=h
def Gq(h:p:=by go_wp2;exact BP):=h
def a22(h:p:=by rw[<-lF];exact fw.yes cT ⟨_,_,_,_,_,_,_,mC⟩ cf):=h
def a1O(h:p:=by exact⟨u,u,u,cF _,λ_ _ _=>u⟩):=h
def a25(h:p:=by (try dsimp only);exact⟨e5,dE,ej,sP,sQ,sR,mB⟩):=h
def a1A(h:p:=by simp[results,Tryz.results248,go_sem,dL,ew,ej]):=h
def a1C(h:p:=by simp[results,Tryz.results225,go_sem,dL,ew,ej]):=h
def a1S(h:p:=by simp[results,Tryz.results183,go_sem,d6,db,eL]):=h
def a1w(h:p:=by(first|exact ap|exact ap.drew|exact ap.drewN _);first|done|fail):=h
def a1U(h:p:=by (try dsimp only);exact⟨e5,dE,fb,g2,gm,gV⟩):=h
def a1B(h:p:=by rw[gX.h];exact gb _ aL):=h
def a1u(h:p:=by rw[show(4:Int).toNat=4 from u,nj];omega):=h
def a1N(h:p:=by simp at bv;subst bv;simp[aF,Value.ownBlock]):=h
def a1Z(h:p:=by have:=(bZ.ae.lt _ bv).1;simp at this;omega):=h
def a24(h:p:=by have:=BI.h;rw[lZ.h]at this;exact this):=h
def XL(h:p:=by have:=mA.h g aL;first|omega|(simp;omega)):=h
def a1y(h:p:=by (try dsimp only);exact⟨fb,g1,g2,gm,gV⟩):=h
def EA(h:p:=by cases aD with|nil=>grind|cons a b=>grind):=h
def a1M(h:p:=by have:=k6.h _ bv;simp at this;try omega):=h
def a1R(h:p:=by (try dsimp only);exact⟨jG,hZ,cA,uE⟩):=h
def a1t(h:p:=by have:=cf.f9;rw[oo]at this;omega):=h
def a1I(h:p:=by have:=Um.h _ bv;simp at this;omega):=h
def a1Q(h:p:=by first|exact z.h.c|exact z.h.c.d8):=h
def a20(h:p:=by (try dsimp only);exact⟨hF,pE,na⟩):=h
def R0(h:p:=by simp[aF,Value.ownBlock]at aL;omega):=h
def a1z(h:p:=by simp[aF,Value.ownBlock]at bv;omega):=h
def FV(h:p:=by exact⟨b2.1,b2.2.1,cf.trans b2.2.2⟩):=h
def a1F(h:p:=by have:=iw.h g aL;(try simp);omega):=h
def xC(h:p:=by rw[j7 A b 0 _ _ _ b2];rfl):=h
def zM(h:p:=by rw[j7 A b 1 _ _ _ b2];rfl):=h
def sw(h:p:=by exact a6.nil _ _ _ _ _ m):=h
def a1x(h:p:=by have:=k6 _ bv;simp at this;omega):=h
def a1v(h:p:=by rw[gX.h];simp at bv;simp[bv]):=h
def wu(h:p:=by exact⟨0,el _,u,ap⟩):=h
def xp(h:p:=by rw[cV,r3]at g8;exact g8.1.elim):=h
def a1E(h:p:=by have:=iw g aL;(try simp);omega):=h
def a1K(h:p:=by rw[<-lF];exact fw.no cT ef cf):=h
def a17(h:p:=by refine ba 9 λp e=>?_;refine WF u _ _ _ u (x cb.heap::aQ (x aA.heap)) (x aA.heap) 47 (aO #[C B 0,C B 0,C B 0,q F 0 0,q F 0 0]) 5 72 lo kW u bi (q (aX cR 0) k ex) _ u ((nZ.sz k a3).I bd) cR iH (n -(k+1)) (ex -(k+1)) ((b.ao.map dC).drop (k+1)) Cv (by first|exact a16|(show Value.slice _ _ _=_;rw[a13.h])) z8 (a14.map λz D o=>o.I bd) (λr s t=>H.aJ (cY:=[]) (A:=gZ) bd (a15 r s t) a8) (by grind[mP,List.mem_of_mem_drop]) a3 a3 rO (λE y=>by rcases ek.1 y with rfl|a;(.first|omega|(simp;omega));.have:=gB.1 a;first|omega|(simp;omega)) ?_;intro J c d f;obtain⟨g,i,a⟩:=d.cv;(have l:j ((b.ao.map dC).take k++(b.ao.map dC).drop (k+1))=n - 1:=z8);rw[l]at a;subst a;obtain⟨a,r⟩:=aq (show H [cR] gZ c from(H.cn bd).then (f.a9.sub (λo bv=>Yh))) d;have o:=a.size;obtain⟨o,s⟩:=aq ((a.block (x cb.heap) m a3).trans nn.box) ((a.block (x A.heap+1) m a3).trans nn.qJ);obtain⟨⟨t,y⟩,z,D⟩:=b8 o;clear d f l;refine aW e a3 λd=>?_;clear e p e7;refine a4 10 96 ?_;refine ba 11 λf e=>?_;go_simp;refine aW e a3 λl=>?_;clear e f d;refine cK ?_;clear l;obtain⟨l,e⟩:=c4 (bX c ⟨x cb.heap,0,F⟩ (q g (n - 1) i));obtain⟨p,f⟩:=aq (show l.heap[x cb.heap]?=G (au #[q g (n - 1) i,C B b.aV] 38 (0,0))from by rw[e];exact fl o) (show H [x cb.heap] c l from by rw[e];exact(H.refl [x cb.heap] c).setCell (aM a8) _);rw[<-e];clear e t y z D;obtain⟨⟨u0,u1⟩,_⟩:=b8 p;obtain⟨⟨iW,hE⟩,c,c⟩:=b8 ((f.block (x A.heap+1) m a3).trans s);go_wp2;all_goals have c:=X7 b.ao k;refine cl (v:= .agg #[.slice g (n - 1) i,.int .i64 b.aV]) yG u (qK.fin (aA:=aA) (aS:=cb.heap.size) (hU:=G5) (fg:=b.ao.take k++b.ao.drop (k+1)) z8 ((nn.t4.trans a a3).trans f a3) ((BH.a9 a a3).a9 f a3) gt jb m m ?_);have d:=(r.a9 f a3).bt;rw[<-FO,<-FP,<-fO]at d;exact d):=h
def a1d(h:p:=by rintro g i⟨ce,h,a,b,rfl,d,e,c,_,k,f⟩;obtain⟨qD,k⟩:=aq (d:bI l (b5 aD) dY ce dm) e;have g:=c.size;obtain⟨g,h⟩:=aq (t0.h.call fc.h c m7 m) (f.sub a3:a6 (x cm.heap::aQ (x A.heap+2)) i (c3 ce.a7) (a1 a ce.a7 b));obtain⟨_,_,⟨i,i,i⟩,⟨i,i,i⟩,_⟩:=g.h.cells;obtain⟨ju,l5⟩:=aq (k.h.set (cN:=cm.heap.size) m (C B ce.af) (C B ce.an) (a1 a ce.a7 b)) (g.h.set a8 h.h);clear e c f d kr iQ;have c:=l5.h.lt;have c:=ju.h.size;have nk:=y (h.h.pi (cN:=cm.heap.size) a8 (C B ce.af) (C B ce.an) (a1 a ce.a7 b));by_cases ll:da ce<=30;(. exact a1b);.have a:lJ ce<0:=xR ll;exact a1l):=h
def a1g(h:p:=by refine aW cy bq λd=>?_;clear cy dj fF;refine ba 5 λe b=>?_;refine jp u _ _ _ u (dr::ec::bM::k7::aQ (x wc.heap)) (x wc.heap) 47 (aO #[ag 0,ag 0,ag 0,q F 0 0,q F 0 0]) 5 72 lo kW u bi (q L4 mz L5) _ (pF.ae.I hr) mz uk _ (dC nJ) (jU _) (i8.enc ⟨my Ex.a λa c=>aM (mA a c),my Ex.k λa c=>aM (mA a c)⟩) (λa c=>by have:=pF.qk a c;omega) (by have:=pF.a9.size;omega) m m u u u ?_;intro a a a a;obtain⟨c,_⟩:=pF.lv hr a;obtain⟨⟨f,f⟩,f,f⟩:=b8 c;have f:=y (pF.push hr nJ a);clear a c;simp only[w5,jT,kL];refine aW b bq λc=>?_;clear b e d;refine a4 6 30 ?_;refine ba 7 λb a=>?_;go_simp;refine aW a bq λd=>?_;clear a b c;refine cK ?_;clear d;go_wp2;go_roundw;(.exact⟨k+1,dX++eP RN++[nJ],[],_,m,bf,f.1.more' ap a3,yi,a3,a8⟩);exact bc):=h
def a1f(h:p:=by have gV:=hu.a9.aJ gV ka.h;clear hu;refine aW cy (by(try dsimp only);exact⟨fb,g1,g2,gm,gV⟩) λb=>?_;clear cy dj fF;refine a4 18 37 ?_;refine ba 19 λc a=>?_;go_simp;refine aW a a0z λd=>?_;clear a c b;refine cK ?_;clear d;go_wp2;go_roundw;(.exact⟨av+1,x8,fo,m,bf,by rw[sF.h,fO,fO];exact z5.h⟩);exact bc):=h
def a1j(h:p:=by have a:=z.h.c.n7;(try simp only[World.drew]at a);obtain⟨⟨b,b⟩,b,b⟩:=b8 a;refine ba 11 λa b=>?_;go_simp;(first|(have a:=SR z fv cD.h m (q pJ (j fG.ao) pK) (C B fG.aV);refine m2 b a.h.c.d8 λc=>?_)|(have a:=iS Bx [q pJ (j fG.ao) pK,C B fG.aV] 38;refine m2 b a.h.c.d8 λc=>?_));refine cK ?_;go_wp2_with fail;go_meet;have b:=m1 (jL (jL a 2) 0) (l1:=[(e6 fG.ao,.slice pJ fG.ao.length pK)]) a8;exact⟨_,fG,pJ,pK,u,mC,rD,(rm b h6).h⟩):=h
def R9(h:p:=by exact⟨k+1,xE,_,m,bf,fk.snoc f0 xF,bZ.grow iq xH qe,(xG.I (ap.alloc _)).a9 qe.a9 (λbM bv=>DG),a3,qe.tG (a6.alloc (tH rb en iq) _) (λg aL=>xK),qe.tG (a6.alloc (tH zS en iq) _) (λg aL=>xK)⟩):=h
def a1k(h:p:=by refine ba 7 λdj cy=>?_;exact a1o):=h
def a1e(h:p:=by exact⟨(my uG λa b=>aM (hH a b)).I Cp,(my H8 λa b=>aM (dF (hH a b) H7)).I v2,u,my Cq λa b=>aM (dF (hH a b) (fB H7 yu)),u,bA⟩):=h
def a1c(h:p:=by clear mF ef wH rJ Fr Fs;go_wp2;refine cl (v:= .agg #[.int .i64 aS.af,.int .i64 aS.an,.slice wF aS.a7.length wG]) Bp u (Fu.h.post Fv.h Fw.h m)):=h
def a1i(h:p:=by go_wp2;(try go_ret);exact pQ.h _ (Oz.h.aa jP.h) (OA.h.trans (bQ.dW jP.h (by exactλa b=>dF (hH.h a b) (me.h.aa pW.h).size))) P6):=h
def Th(h:p:=by clear cy dj fF;refine cK ?_;clear e7;go_wp2;go_roundw;(.refine⟨av+1,hZ,ey,m,bf,?_⟩;rw[sF.h,n9,n9];exact c6.rp eb pz 1);exact bc):=h
def Vp(h:p:=by((repeat(first|with_reducible refine dq.drew ?_|((with_reducible refine dq.zeroAt _ ?_)<;>(first|(simp;done)|fail))|with_reducible refine dq.alloc ?_ _|fail)));first|done|fail):=h
def a08(h:p:=by (try dsimp only);exact⟨eb.h.a2 hF,eb.h.a2 mB,eb.h.a2 Ce,eb.h.a2 fb,eb.h.a2 g1,eb.h.a2 g2,eb.h.a2 gm,eb.h.a2 gV⟩):=h
def TK(h:p:=by go_roundw;(.exact⟨k+1,gP++[aS],m,bf,aB,kt ED.ae,ED.bn bZ (ca.aa ap)⟩);exact bc):=h
def Uu(h:p:=by refine nv cy bA ?_;refine pD ?_;go_wp2_with fail;go_meet;exact⟨_,fG,pJ,pK,u,mC,rD,(rm (jL z 3) h6).h⟩):=h
def R3(h:p:=by exact⟨0,hh,[],el _,u,gL.nil _ _,vv,Jl.I (ap.alloc _),m,sp,Jm⟩):=h
def ZH(h:p:=by (have a:(s.b1==0)=false:=tn);go_wp2;go_ret2;exact eO.mk' fe.h dZ.h):=h
def La(h:p:=by go_roundw;(.exact⟨k+1,gP,m,bf,m,bZ,ca.aa ap⟩);exact bc):=h
def a1h(h:p:=by (try dsimp only);exact⟨gD.h.a2 ey,gD.h.a2 kE,gD.h.a2 fo,gD.h.a2 kF⟩):=h
def P5(h:p:=by (try dsimp only);exact⟨jP.h.a2 ey,jP.h.a2 kE,jP.h.a2 fo,jP.h.a2 kF⟩):=h
def a1a(h:p:=by (try dsimp only);(have a:H [] wr _:=v3.h;exact⟨a.a2 e5,a.a2 d6⟩)):=h
def Jc(h:p:=by exact⟨0,xD,[],el _,u,gL.nil _ _,vv,Dy,m,sp⟩):=h
def a1W(h:p:=by simpa only[eJ,et,ql]using b2):=h
def a1Y(h:p:=by have:=hH g (gQ _ aL);have:=hr.size;omega):=h
def HR(h:p:=by rcases la av k with a|a;(.exact mi av a);.grind):=h
def NC(h:p:=by exact⟨cG+1,m,bf,BQ.h,kB.h _⟩):=h
def KP(h:p:=by (try dsimp only);exact⟨gW,gx,hY,yd,ye,yf⟩):=h
def BP(h:p:=by go_ret;exact⟨cS gu.h.symm,oG.h⟩):=h
def Cb(h:p:=by go_wp2;go_ret2;exact eO.mk' fe.h dZ.h):=h
def a28(h:p:=by have:=k6.h _ bv;simp at this;try omega):=h
def a1H(h:p:=by have:=lZ g aL;first|omega|(simp;omega)):=h
def a1G(h:p:=by simp at eh;subst eh;exact zh aS):=h
def a27(h:p:=by have:=k6 _ bv;simp at this;omega):=h
def Ca(h:p:=by rw[<-fe.h]at this;exact this):=h
def a1l(h:p:=by go_wp2_with fail;refine ad (q2 (a0:=cm.heap.size::List.range (A.heap.size+2)) ce _ _ ⟨_,_,u,nk.h⟩) ?_;rintro o p⟨rfl,a⟩;have b:=y (ju.h.I a);obtain⟨h,i⟩:=b.h.cells;have q:=b.h.size;clear a;go_wp2_with fail;refine ad (rH eA.h fa.h _ dY dm 12 b.h bd (b.h.iu ky.h) m m (rI.h dY) m m a3 Ft) ?_;rintro r j⟨a,s,e,f,rfl,c,d,k,_,n,g⟩;rw[show(12:Int).toNat=12 from u,yz]at n;obtain⟨b,n,o⟩:=bb d (g.sub (eK m):a6 (aQ (x A.heap+2)) j (c3 a.a7) (a1 e a.a7 f)) (⟨c.1,c.2 qC.h⟩:bI l (b5 aD) dY a dm/\da a<=30);obtain⟨⟨d6,db,eL⟩,j,j,j⟩:=d.h;clear d k g c h i;go_wp2;refine cl (v:= .agg #[.int .i64 a.af,.int .i64 a.an,a1 e a.a7 f]) Bp u (b.h.post n.h o.h m)):=h
def a1b(h:p:=by (have b:¬lJ ce<0:=Mj);go_wp2_with fail;refine ad (q2 (a0:=cm.heap.size::List.range (A.heap.size+2)) ce _ _ ⟨_,_,u,nk.h⟩) ?_;rintro c f⟨rfl,a⟩;obtain⟨b,g⟩:=aq (ju.h.I a) (l5.h.I a);obtain⟨c,d,⟨h,h,h⟩,_,e⟩:=g.h.cells;have g:=y (e.tail:a6 (aQ (x A.heap+2)) f (c3 ce.a7) (a1 c ce.a7 d));obtain⟨⟨d6,db,eL⟩,f,f,f⟩:=b.h.h;have f:=y (⟨qD.h,ll⟩:bI l (b5 aD) dY ce dm/\da ce<=30);clear a e;go_wp2;refine cl (v:= .agg #[.int .i64 ce.af,.int .i64 ce.an,a1 c ce.a7 d]) Bp u (b.h.post g.h f.h m)):=h
def a0z(h:p:=by (try dsimp only);(have a:H [mx] z4 (bX z4 (bs mx 1) (q x8 (av+1) fo)):=ap.setCell (aM a8) _;exact⟨a.aJ fb Cw,a.aJ g1 Cw,a.aJ g2 Cw,a.aJ gm Cw,a.aJ gV Cw⟩)):=h
def a1o(h:p:=by go_simp;refine aW cy bq λa=>?_;clear cy dj e7;refine cK ?_;clear a;go_wp2;go_roundw;(.exact⟨av+1,_,m,bf,by rw[Ki,<-qn];exact yg.1,l3.trans yg.2⟩);exact bc):=h
def a1L(h:p:=by simp[results,Tryz.results65,go_sem,iW,hE]):=h
def a1X(h:p:=by simp[results,Tryz.results134,go_sem,d6,db,eL]):=h
end
end Go.Proofs.YtfekcilkpafpjaaGreat
