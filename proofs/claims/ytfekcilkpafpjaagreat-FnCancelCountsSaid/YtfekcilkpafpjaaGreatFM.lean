/- A part. -/
import Derived.Test.YtfekcilkpafpjaaGreatF00
import Derived.Deep.DeepCutAuto
import Derived.Deep.RegionHeld3
open Array renaming size->x
open Go renaming Calls->aQ
open Go.Calls renaming mono->ab
open Go.Ending renaming returned->bd
open Go.IntKind renaming i64->B
open Go.Obj renaming cells->au
open Go.Value renaming int->C,slice->q,agg->aO
open Go.World renaming cell?->ax,drew->ed,alloc->aX,setCell->bZ
open Int renaming toNat->bF
open List renaming length->j,range->aR,getD->aU
open Option renaming none->G,some->H
open Or renaming inl->aN,inr->bk
namespace Go.Proofs.YtfekcilkpafpjaaGreat
open Go.RowKit
open Tryz renaming prog->aK
open Tryz
set_option maxRecDepth 100000
set_option maxHeartbeats 25600000
set_option linter.all false
abbrev yU:=@AllReadyH.cons
abbrev pt:=@AllReadyH.nil
abbrev GA:=@wpAnyH_ready
abbrev eS:=@wp_region_held_drew
section
variable{p:Prop}
def m(h:p:=by omega):p:=h
def a4(h:p:=by grind):p:=h
def a8(h:p:=by(simp);first|done|fail):p:=h
def bf(h:p:=by decide):p:=h
def be(h:p:=by go_num):p:=h
def cB(h:p:=by kernel_rfl):p:=h
def ie(h:p:=by exact a2I):p:=h
def fG(h:p:=by go_simp):p:=h
def jV(h:p:=by exact a2U):p:=h
def jI(h:p:=by exact a2V):p:=h
def ig(h:p:=by exact a2T):p:=h
def kO(h:p:=by exact a2W):p:=h
def kQ(h:p:=by exact a2X):p:=h
def p1(h:p:=by exact a2Y):p:=h
def ny(h:p:=by exact a0Z):p:=h
def ot(h:p:=by exact a10):p:=h
def oj(h:p:=by exact a11):p:=h
def pf(h:p:=by exact a12):p:=h
def ta(h:p:=by exact a2P):p:=h
def sD(h:p:=by exact a30):p:=h
def tb(h:p:=by exact a2Z):p:=h
def pj(h:p:=by exact a13):p:=h
def rt(h:p:=by rw[gL.h];exact b7):p:=h
def rS(h:p:=by exact a14):p:=h
def sr(h:p:=by exact a17):p:=h
def sk(h:p:=by exact a15):p:=h
def vI(h:p:=by exact a31):p:=h
def sM(h:p:=by exact a16):p:=h
def uU(h:p:=by exact a32):p:=h
def xo(h:p:=by exact a33):p:=h
def xH(h:p:=by exact a34):p:=h
def uw(h:p:=by exact a1b):p:=h
def tS(h:p:=by exact a19):p:=h
def tE(h:p:=by rw[<-mN.h];omega):p:=h
def tG(h:p:=by exact a1a):p:=h
def yo(h:p:=by exact a35):p:=h
def tf(h:p:=by exact a18):p:=h
def tC(h:p:=by have:=cS.fq;omega):p:=h
def vS(h:p:=by rw[lJ.h];rfl):p:=h
def vv(h:p:=by exact Qo):p:=h
def Bi(h:p:=by exact a36):p:=h
def Bd(h:p:=by exact a37):p:=h
def vp(h:p:=by(rw[cN]);first|done|fail):p:=h
def vX(h:p:=by exact a1c):p:=h
def vr(h:p:=by exact a1e):p:=h
def Am(h:p:=by exact a38):p:=h
def EJ(h:p:=by exact a2y):p:=h
def yk(h:p:=by exact a1i):p:=h
def Dn(h:p:=by exact a3b):p:=h
def yc(h:p:=by exact a1j):p:=h
def Bt(h:p:=by exact a3a):p:=h
def FM(h:p:=by exact a39):p:=h
def yC(h:p:=by exact a1h):p:=h
def GW(h:p:=by exact a3c):p:=h
def KS(h:p:=by exact a3g):p:=h
def J2(h:p:=by exact a2u):p:=h
def Aq(h:p:=by rw[kX.h];rfl):p:=h
def zD(h:p:=by rw[<-tH.h];omega):p:=h
def AR(h:p:=by have:=qj bM bw;omega):p:=h
def vd(h:p:=by exact a1d):p:=h
def B5(h:p:=by exact a1p):p:=h
def BW(h:p:=by exact a1s):p:=h
def C0(h:p:=by exact a1r):p:=h
def Bb(h:p:=by exact a1l):p:=h
def AT(h:p:=by exact a1o):p:=h
def KI(h:p:=by exact a3d):p:=h
def II(h:p:=by exact a3f):p:=h
def A5(h:p:=by exact a1q):p:=h
def Bv(h:p:=by rw[gy.ae];exact nL):p:=h
def zA(h:p:=by rw[fX,xr];rfl):p:=h
def AQ(h:p:=by have:=fh.h.1;omega):p:=h
def AS(h:p:=by exact a1n):p:=h
def GP(h:p:=by exact a3h):p:=h
def Ao(h:p:=by have:=An.h;omega):p:=h
def BA(h:p:=by exact a1m):p:=h
def Ke(h:p:=by exact a3e):p:=h
def Dk(h:p:=by exact a1w):p:=h
def M3(h:p:=by exact a3o):p:=h
def FU(h:p:=by exact Xf):p:=h
def EC(h:p:=by rw[qd];omega):p:=h
def LH(h:p:=by have:=Dt.2 li;omega):p:=h
def Eb(h:p:=by exact a1y):p:=h
def Ol(h:p:=by exact a3m):p:=h
def GG(h:p:=by exact a1C):p:=h
def Gn(h:p:=by unfold maxLen;omega):p:=h
def B4(h:p:=by exact a1k):p:=h
def Qs(h:p:=by exact a1L):p:=h
def Dq(h:p:=by rw[o5];exact ee):p:=h
def FL(h:p:=by exact a1z):p:=h
def oU(h:p:=by have:=fh.1;simp;omega):p:=h
def MF(h:p:=by exact a3j):p:=h
def AY(h:p:=by exact a1t):p:=h
def Qx(h:p:=by exact a3i):p:=h
def GB(h:p:=by rw[t7];omega):p:=h
def E9(h:p:=by have:=c6.a9.size;omega):p:=h
def Gh(h:p:=by exact a1v):p:=h
def Mz(h:p:=by exact a3k):p:=h
def PL(h:p:=by exact a3n):p:=h
def Da(h:p:=by have:=b7.size;omega):p:=h
def EB(h:p:=by exact a1x):p:=h
def E4(h:p:=by exact a1u):p:=h
def PD(h:p:=by exact a3p):p:=h
def FE(h:p:=by rw[b6.eta];exact kR):p:=h
def GE(h:p:=by rw[qA];simp):p:=h
def E8(h:p:=by have:=c6.q2 g aL;omega):p:=h
def Fv(h:p:=by rw[c5];omega):p:=h
def OZ(h:p:=by exact a3l):p:=h
def ws(h:p:=by exact a1f):p:=h
def Dc(h:p:=by exact a1B):p:=h
def Lp(h:p:=by rw[Us];exact w3.h.ae):p:=h
def NU(h:p:=by rw[jk.h,mB.h];rfl):p:=h
def Kd(h:p:=by rw[<-ks.h];exact xQ):p:=h
def M1(h:p:=by rw[qq];exact aj.alloc _):p:=h
def Jp(h:p:=by have:=fD g aL;simp;omega):p:=h
def IF(h:p:=by have:=ce.fq;grind[o5]):p:=h
def HL(h:p:=by rw[gn,Ph n ns Pj];rfl):p:=h
def L5(h:p:=by rw[fy];exact fh.h):p:=h
def KL(h:p:=by have:=n5.h;omega):p:=h
def iT(h:p:=by have:=cC g aL;simp;omega):p:=h
def Nz(h:p:=by rw[IntKind.wrap_i64];omega):p:=h
def SS(h:p:=by rw[tH.h];exact a2S):p:=h
def Jx(h:p:=by have:=lS.h g aL;simp;omega):p:=h
def Lo(h:p:=by rw[yf];exact um.h):p:=h
def SN(h:p:=by rw[mN.h];exact a2S):p:=h
def MQ(h:p:=by rw[pw];exact aj.alloc _):p:=h
def LZ(h:p:=by rw[qp];exact aj.alloc _):p:=h
def NI(h:p:=by have:=BE.h;omega):p:=h
def Lh(h:p:=by have:=L2 j8;omega):p:=h
def On(h:p:=by rw[BP.h,n1.h]):p:=h
def TG(h:p:=by rw[rn];exact fJ KZ.h):p:=h
def ZZ(h:p:=by rw[lJ.h];simp at xA;simpa using xA):p:=h
def YT(h:p:=by have:=(rP.h.lt _ bw).2;simp at this):p:=h
def WG(h:p:=by rw[uv];exact fJ qx.box):p:=h
def ZM(h:p:=by have a:=BR.h;rw[uc,<-qE,db]at a;simp at a):p:=h
def Rw(h:p:=by obtain⟨a,rfl⟩:=q1;exact aj.drewN a):p:=h
def QT(h:p:=by(first|exact xu.h|exact xu.h.I cV);first|done|fail):p:=h
def VT(h:p:=by have:=n2.h.ce.fq;rw[o5]at this;omega):p:=h
def Ym(h:p:=by have:=(c6.h.jl.lt g aL).2;have:=dV.h.size;omega):p:=h
def XD(h:p:=by rw[jk.h,qz,gc,mS.h,s3];simp[N2]):p:=h
def Sw(h:p:=by obtain⟨a,rfl⟩:=A4;exact aj.drewN a):p:=h
def Yx(h:p:=by rw[pE];exact NA cL cQ NB):p:=h
def X6(h:p:=by rw[uB,bC,Mv,Mw,wo]):p:=h
def PP(h:p:=by obtain⟨a,rfl⟩:=iY;exact aj.drewN a):p:=h
def Rh(h:p:=by have:=Jg.h;have:=Jh.h;omega):p:=h
def SA(h:p:=by (try dsimp only);exact⟨hd,jQ,pR,sd,A7,mp⟩):p:=h
def V4(h:p:=by exact(qk.h.ip kt.h).I cV):p:=h
def XR(h:p:=by rw[rM];exact yy.h.I (aj.alloc _)):p:=h
def W0(h:p:=by have:=wi.ae;rwa [iA]at this):p:=h
def QX(h:p:=by have:=zF.h;simpa[b4]using this):p:=h
def Wo(h:p:=by obtain⟨a,rfl⟩:=ym;exact hr.h.drewN a):p:=h
def SC(h:p:=by (try dsimp only);first|assumption|exact fw):p:=h
def QA(h:p:=by rw[nU,nU];exact⟨u,u,fX,u,u,qO,bu⟩):p:=h
def ZE(h:p:=by first|exact e5.h|exact e5.h.drew):p:=h
def RZ(h:p:=by rw[Jz.h,JA.h,iY.h];omega):p:=h
def SD(h:p:=by (try dsimp only);exact⟨n0,j0,je,xR,xS,xT⟩):p:=h
def YU(h:p:=by have:=(rP.h.lt g aL).2;have:=ci.h.size;simp;omega):p:=h
def Sz(h:p:=by (try dsimp only);first|assumption|exact e2):p:=h
def a0C(h:p:=by have:=(bU.ae.lt _ bw).1;simp at this;omega):p:=h
def WB(h:p:=by rw[<-iN,Cl]):p:=h
def T0(h:p:=by rw[<-vE.h,xZ.h,Ih n2]):p:=h
def Z8(h:p:=by first|exact(ci.h.alloc _).aa lP.h|exact ci.h.alloc _):p:=h
def VU(h:p:=by rw[da];exact BB h9 _):p:=h
def Rg(h:p:=by rw[<-iY.h,kR.h,ND r5]):p:=h
def OU(h:p:=by match am,qO with|[a,b],_=>exact⟨a,b,u⟩):p:=h
def SM(h:p:=by have a:=oT.2.dJ v;rw[Ad]at a;simpa using a):p:=h
def WQ(h:p:=by rw[fy];exact gM.h):p:=h
def Wp(h:p:=by obtain⟨a,rfl⟩:=ym;exact aj.drewN a):p:=h
def U1(h:p:=by rw[sL.h];exact Ed sK.h eX):p:=h
def Wx(h:p:=by rw[<-ql.h,wl.h,dz Mp]):p:=h
def ZU(h:p:=by (try dsimp only);exact⟨uO.h.a3 kA,uO.h.a3 kB⟩):p:=h
def X7(h:p:=by rw[da];exact F.es rH (x bP.heap) _ _):p:=h
def Sk(h:p:=by rw[lM.h.1,<-vE.h,ll,PH]):p:=h
def TU(h:p:=by have:=EG.h;rw[ND qh]at this;simpa using this):p:=h
def ZV(h:p:=by (try dsimp only);exact⟨nQ.h.a3 kA,nQ.h.a3 kB⟩):p:=h
def SK(h:p:=by rw[ka eA dm 0 _ _ _ ee.more];rfl):p:=h
def Ux(h:p:=by show j dk<=_;rw[b7.1];exact po.nr):p:=h
def aB(h:p:=by simp;omega):p:=h
def bq(h:p:=by(simp_all);first|done|fail):p:=h
def nu(h:p:=by simp[db]):p:=h
def og(h:p:=by simp[b7]):p:=h
def oE(h:p:=by grind[cN]):p:=h
def q4(h:p:=by(simp[aL]);first|done|fail):p:=h
def qg(h:p:=by simp[bn.af]):p:=h
def r0(h:p:=by grind[mP.dS]):p:=h
def qX(h:p:=by simp at b7):p:=h
def qL(h:p:=by simpa using gQ):p:=h
def si(h:p:=by grind[o5]):p:=h
def uP(h:p:=by simpa using O3):p:=h
def te(h:p:=by(simp[b5]);first|done|fail):p:=h
def tA(h:p:=by grind[yX]):p:=h
def uW(h:p:=by simpa using eb):p:=h
def uZ(h:p:=by simp[c9]):p:=h
def uV(h:p:=by simpa using h1):p:=h
def wm(h:p:=by simp[mK]):p:=h
def uX(h:p:=by grind[b5]):p:=h
def wF(h:p:=by simp[t8]):p:=h
def yP(h:p:=by exact a1E):p:=h
def yQ(h:p:=by exact a1D):p:=h
def AX(h:p:=by grind[w6]):p:=h
def z3(h:p:=by simp[eZ]):p:=h
def C4(h:p:=by simpa using a06.h):p:=h
def zM(h:p:=by simpa using xF.h):p:=h
def F8(h:p:=by grind[yi]):p:=h
def C5(h:p:=by simpa using kb):p:=h
def CB(h:p:=by grind[iH]):p:=h
def GV(h:p:=by simp;try omega):p:=h
def Du(h:p:=by simp[b5,cu]):p:=h
def QQ(h:p:=by exact a3q):p:=h
def FP(h:p:=by simp[gM.h]):p:=h
def FF(h:p:=by grind[uc]):p:=h
def EK(h:p:=by simp[oa.h]):p:=h
def EH(h:p:=by simpa using qh):p:=h
def FK(h:p:=by grind[aj,F.alloc]):p:=h
def D5(h:p:=by grind[gt]):p:=h
def DO(h:p:=by(rw[cN];simp);first|done|fail):p:=h
def Qy(h:p:=by exact L0):p:=h
def Lc(h:p:=by simp[cx,c5,du]):p:=h
def LN(h:p:=by(simp[uo.h,Fp.h]);first|done|fail):p:=h
def Hr(h:p:=by grind[eB,mD]):p:=h
def Ja(h:p:=by simpa[a7]using vn.1):p:=h
def LR(h:p:=by simp[sL.h];omega):p:=h
def Iw(h:p:=by rw[cN];omega):p:=h
def Il(h:p:=by simp[Region.wanted,D2]):p:=h
def V0(h:p:=by simp[results,Tryz.results185,go_sem,d4,d7,eI]):p:=h
def a04(h:p:=by simp[results,Tryz.results14,go_sem,dH,eo]):p:=h
def VV(h:p:=by simp[results,Tryz.results66,go_sem,f8,fQ]):p:=h
def Oz(h:p:=by simp[results,Tryz.results226,go_sem]):p:=h
def a02(h:p:=by simp only[ki,fF]at gy;exact gy.1):p:=h
def UQ(h:p:=by simp[results,Tryz.results227,go_sem,d4,d7,eI]):p:=h
def UV(h:p:=by simp[results,Tryz.results182,go_sem,d4,d7,eI]):p:=h
def Yv(h:p:=by rw[Dz];exact Ny _ m):p:=h
def VZ(h:p:=by rw[hO];exact(B7.h.cons m).I cb.a9):p:=h
def XL(h:p:=by simpa[aF,Value.ownBlock]using bw):p:=h
def V9(h:p:=by simp only[b4,k7,jf.AP];exact kP):p:=h
def a0Q(h:p:=by simp[results,Tryz.results225,go_sem,dH,eo,ef]):p:=h
def Vb(h:p:=by simp[aF,Value.ownBlock]at bw;subst bw;simp):p:=h
def Vd(h:p:=by simp[results,Tryz.results184,go_sem,d4,d7,eI]):p:=h
def QZ(h:p:=by rintro rfl;exact J0 Dp.h m eg):p:=h
def a0c(h:p:=by simp[results,Tryz.results11,go_sem,dH,eo]):p:=h
def VX(h:p:=by simp[results,Tryz.results33,go_sem,f8,fQ]):p:=h
def Tr(h:p:=by rw[<-sC.h,vT.h,ND m];rfl):p:=h
def TH(h:p:=by rw[rn];exact hr.h.setCell (aN a8) _):p:=h
def U0(h:p:=by have a:=KT b.ap k m;rw[Aj eX]at a;omega):p:=h
def Sc(h:p:=by simp[aF,Value.ownBlock]at b7;omega):p:=h
def a0R(h:p:=by simp[results,Tryz.results139,go_sem,Oo,Oq]):p:=h
def WD(h:p:=by grind[c9,iN,List.take_append_drop]):p:=h
def Qe(h:p:=by simp[results,Tryz.results229,go_sem,dH,eo,ef]):p:=h
def Ya(h:p:=by simp[results,Tryz.f210,go_sem,dH,eo,ef,pa,Nq]):p:=h
def R9(h:p:=by simp[results,Tryz.results207,go_sem,Jf]):p:=h
def UH(h:p:=by simp[results,Tryz.results186,go_sem,d4,d7,eI]):p:=h
def kl(h:p:=by simp at aL;omega):p:=h
def qY(h:p:=by simp at bw;omega):p:=h
def tJ(h:p:=by simp[b5,cu]at b7):p:=h
def va(h:p:=by simp[b5];omega):p:=h
def Dg(h:p:=by simp at aL;simp;omega):p:=h
def Jw(h:p:=by simp at ee;subst ee;rfl):p:=h
def Va(h:p:=by simp at ee;subst ee;exact yX _):p:=h
def S4(h:p:=by simp at kU;rcases kU with rfl|rfl<;>rfl):p:=h
def QP(h:p:=by simp at kP;subst kP;exact mO er ao (aN u)):p:=h
def VH(h:p:=by simp at bw;subst bw;exact aN uo.h):p:=h
def S7(h:p:=by simp at kU;rcases kU with rfl|rfl|rfl|rfl<;>rfl):p:=h
def S5(h:p:=by simp at kU;rcases kU with rfl|rfl|rfl<;>rfl):p:=h
def QL(h:p:=by simp at kP;subst kP;exact mO er.h ao (aN u)):p:=h
def a2Q(h:p:=by simp at ee;subst ee;exact yX aP):p:=h
def Uu(h:p:=by have:=(bU.h.lt g bq).2;omega):p:=h
def PQ(h:p:=by rw[lJ.h,<-PO,c6.h bq]):p:=h
def WI(h:p:=by go_upto_region 13 with fail;have nJ:=A (show aS (x bP.heap::aR (x aA.heap)) (x aA.heap) gN 47 5 (q (aZ cO 0) n eq) (b.ap.map dR)from by have:=nb.ae;rwa [oo.h]at this);obtain⟨_,_,o,p,E⟩:=oG (show a7 _ gN (dZ b.ap) (q (aZ cO 0) n eq)from nJ.br);injection o with a c r;subst r;rw[gM.h]at p;clear a c;obtain⟨C3,a,s⟩:=nJ.W6 (k+1) a4;(obtain⟨iC,c,f⟩:∃iC,(if eq=k+1 then H (Addr.mk cO 0 G)else H (Addr.mk cO ((k+1)*5) G))=H (Addr.mk cO iC G)/\∀i l,C3[i]?=H l->aW gN cO (iC+i) l:=by by_cases t:eq=k+1;(.rw[dz t];have z:(b.ap.map dR).drop (k+1)=[]:=M8 FM;rw[z]at a;refine⟨0,u,λJ K D=>?_⟩;cases C3 with|nil=>simp at D|cons L N=>exact a.elim);.grind);obtain⟨a0x,a0y,a0z,a0A⟩:=cd c (show cu (aF (q (aZ cO 0) k eq)++(x bP.heap::aR (x aA.heap))) gN ((b.ap.map dR).drop (k+1)).flatten C3 from a) f (show Value.slice (if eq=k+1 then H (Addr.mk cO 0 G)else H (Addr.mk cO ((k+1)*5) G)) (n -(k+1)) (eq -(k+1))=q (H (Addr.mk cO iC G)) (n -(k+1)) (eq -(k+1))from by rw[c]);have i:=nJ.lt cO Qy;have i:cO≠x bP.heap:=λdb=>nJ.dY cO Qy nu;clear c a s f;have a:=(F.refl [] gN).drew.a3 d4;(have a:(0:Int)<=(k:Int):=m);(have a:(k:Int)<=(eq:Int):=m);(have a:(k:Int)<=(n:Int):=m);(have a:(0:Int)<=(k:Int)+1:=m);(have a:(k:Int)+1<=(n:Int):=m);(have a:(n:Int)<=(eq:Int):=m);(have a:((k:Int)+1).toNat=k+1:=m);have a:IntKind.i64.wrap ((k:Int)+1)=(k:Int)+1:=fl _ m;refine eS (S:=(λ_=>True)) cB ?_ (λe2=>?_);(.grind);refine a2 0 86 ?_;refine a2 2 88 ?_;refine a2 4 90 ?_;refine a2 6 92 ?_;refine a2 7 93 ?_;refine GA (rs:=[1,5]) cB a8 ?_;refine(yU u (λc a=>?_) (yU u (λc a=>?_) pt));(.go_simp;refine aV a a4 λi=>?_;clear a c e2;refine a2 3 89 ?_;refine ba 5 λl f=>?_;go_simp;refine aV f a4 λe2=>?_;clear f l i;refine a2 8 94 ?_;exact a0B);.go_simp;refine aV a a4 λf=>?_;clear a c e2;refine a2 8 94 ?_;refine ba 1 λc a=>?_;go_simp;refine aV a a4 λe2=>?_;clear a c f;refine a2 3 89 ?_;exact a0B):p:=h
def Qq(h:p:=by have f:=A (vg.one er);go_wp2_with fail;refine ab (oF _ l 1 _ ((im.I ci).a9 oW).hK o7 ((im.I ci).a9 oW).fD) ?_;rintro bl L⟨bm,rfl,a,c⟩;have Q:=A (c.br:a7 a0 L (aI (bt l 1)) _);obtain⟨az,aA,rfl,_⟩:=bB Q;obtain⟨D,aC⟩:=aq (oW.aa a) (IJ.I a);have aD:=D.size;simp at aD;have g:bh L y 0 (a1 bi l bj):=a.a3 e0;have h:bh L y 1 (a1 bO aE bA):=a.a3 dD;clear a c e0 dD;go_wp2_with fail;refine ab (Df ((im.I ci).a9 D) (p+1) aC _ ao ((gd.I ci).a9 D (h7 eg)) m 1 a8 f.h1 (zs ao f.flat) er f7 m) ?_;rintro M E⟨c,bo,hf,rfl,d,a,IK:ak _,bp,R,S,rfl,e⟩;have T:=A (D.then a);have bq:=a.size;obtain⟨aG,vc,sh,IL⟩:=cd d.1 (fC.Dm (aT:=aT) (go:=y.heap.size+2) T a8 (e.sub (eH m))) (((Q.a9 a (h7 eg)).cons (zo _)).alloc _:a7 (aF (q (bR E 0) 1 1)++a0) (aX E (au #[ah c.af,ah c.an,a1 R c.a6 S] 155)) (aI (bt l 1)) _) ((((gd.I ci).a9 T (h7 eg)).cons (zo _)).alloc _:a7 (aF (q (bR E 0) 1 1)++a0) (aX E (au #[ah c.af,ah c.an,a1 R c.a6 S] 155)) (aI ao) (a1 zt ao zu));clear a d e g h;have aH:=f.fq;have e:=A (⟨_,u⟩:∃aJ:ad,aJ=bt l 1);obtain⟨a,d⟩:=e.h;have gW:=A d;rw[<-d]at sh aH;rw[<-d];clear d e;go_wp2;go_loopw [13,14](λN aK wr=>∃(k U:Nat)(V:List bn),k<=j a/\aK=C B k/\gz (λaL aP=>bI l (b4 aE) (ao++bg l aL) aP t) a k V/\fC aT (x y.heap+2) ((aX y (au #[a1 bi l bj,a1 bO aE bA] 126)).alloc (au #[ah 0,ah 0,q G 0 0] 155)) wr N (c::V)/\cZ b9 wr aT U/\U<=p+51+k*jR/\a7 (aF N++a0) wr (aI a) (a1 az a aA)/\a7 (aF N++a0) wr (aI ao) (a1 zt ao zu))(λ_ aM _=>j a -(intOf aM).toNat);(. exact Qr);obtain⟨k,W,g,bs,rfl,e,d,r,bu,s,z⟩:=hrel;obtain⟨fh,bU,X,Y,Z⟩:=eV e d r s z;have aN:=d.a9.size;simp at aN;have h:bh wr y 0 (a1 bi l bj):=d.a9.aJ fG aB;have o:bh wr y 1 (a1 bO aE bA):=d.a9.aJ fG aB;have bv:k*jR<=3*jR:=jM _ m;have O:=A ((im.I ci).a9 d.a9);clear e d r s z;by_cases a2:k<j a;(.obtain⟨aQ,aS,rfl,vf:ak _,bx,J⟩:=c0 Y a2;(have bz:k*jR+jR<=3*jR:=a1X);obtain⟨aU,bC⟩:=Dj (n:=a.length) (m:0<=b - 2);(have bD:a≠[]:=a4);(have bE:eM ((b - 2).tdiv (j a)).toNat<=jR:=SN);have aV:=A (io _ aU m);have aY:IntKind.i64.wrap (b - 2)=b - 2:=fl _ m;have aZ:IntKind.i64.wrap ((b - 2).tdiv (j a))=(b - 2).tdiv (j a):=fl _ m;have bF:j (bg l a[k])<=3:=f.tB _ (by rw[<-gW.h];simp);go_wp2;go_region_held3(λP=>bh P y 0 (a1 bi l bj)/\bh P y 1 (a1 bO aE bA)/\aW P aQ (aS+k) (ah a[k]))(first|exact⟨h,o,J⟩|exact⟨dH,eo,ef⟩|exact⟨ai,al,am⟩|exact⟨ae,af,ag⟩|exact⟨b0,b1,b2⟩|exact⟨a',vh,vi⟩)(first|(go_at_call 162;refine ab (lD _ l a[k] _ O.hK.drew o7) ?_;rintro M a3⟨bG,rfl,an,a5:ak _⟩;obtain⟨bH,bJ,rfl,_⟩:=bB a5;have r:=A (aj.drew.aa an:F [] wr a3);have bK:=r.size;obtain⟨a',vh,vi⟩:=r.e1 h o J;clear an)|(go_at_call 200;refine ab (pG _ _ ao (bg l a[k]) a3 ((Db Z).I r) a5 m m (O.I r).fD) ?_;rintro M a6⟨bc,rfl,ap,ar⟩;have aa:=A (ar.br:a7 a0 a6 (aI (ao++bg l a[k])) bc);obtain⟨bL,bN,aw,_⟩:=bB aa;rw[eR]at aw;subst aw;have s:=A (r.aa ap);have bP:=s.size;obtain⟨b0,b1,b2⟩:=s.e1 h o J;clear ap ar)|(go_at_call 225;(try rw[aY]);(try rw[aZ]);refine ab (aV a0 b9 aT _ _ a6 (O.I s) W (X.I s) _ (ao++bg l a[k]) aa (by rw[eR];omega) t hd jQ (xn _ lM) m) ?_;rintro M wx⟨aP,bQ,b3,rfl,ax,z,b5:ak _,bS,bd,bk,rfl,ay⟩;have an:=z.size;obtain⟨e,b6,b8⟩:=bb (s.ca.then z) (bU.fresh (ay.sub (eH m))) ax.1;have ae:=e.aJ h aB;have af:=e.aJ o aB;have ag:=e.aJ J SL;have an:=(F.refl [] wx).alloc (au #[ah aP.af,ah aP.an,a1 bd aP.a6 bk] 155);obtain⟨ai,al,am⟩:=an.e1 ae af ag;clear z ax ay an)|(refine step_append u _ _ 153 u (aR (x y.heap+2)) (x y.heap+2) 155 (aO #[ah 0,ah 0,q G 0 0]) 3 40 IA oQ u bf u13 _ u ((bU.call m e).alloc _) (q (bR wx 0) 1 1) [gj aP] u (o6 b6 (bU.below e)) (λz ee=>a2Q) oU oU aB (λz z=>by simp at z⊢;omega) ?_;intro z z d z;obtain⟨ba,K⟩:=aq d z;have dH:=z.a9.aJ ai (λbw=>a0C);have eo:=z.a9.aJ al (λbw=>a0C);have ef:=z.a9.aJ am (λbw=>vf (hs _ bw));clear d z));all_goals go_wp2;go_roundw;(.exact⟨k+1,b3,_,m,be,fh.snoc a2 b8,bU.grow e ba K,(b5.I (aj.alloc _)).a9 K.a9 (λbM bw=>GP),a4,K.tw (a7.alloc (tx Y eg e) _) (λd r=>by have:=im.fD d r;simp;omega),K.tw (a7.alloc (tx Z eg e) _) (λd e=>by have:=im.fD d e;simp;omega)⟩);simp[intOf];omega);. (have r:k=j a:=m);subst r;have s:=A (.xe f.ne aG (by rw[<-gW.h];exact fh.1) (λav vh vi=>a1Y):bI l (b4 aE) ao (.mk 8 (1:Int) (c::g)) t);go_wp2_with fail;refine ab (rW 8 1 _ (c::g) _ bU.ae.br) ?_;rintro P e⟨a3,rfl,d,z,J,rfl,K:ak _⟩;have a:=bU.a9.aa d;have f:=a.size;simp at f;have r:ak (F [aT] y e):=A (ci.ca.then a);have D:=A (X.I d);have f:e.heap[x y.heap+1]?=H (au #[ah 0,ah 0,q G 0 0] 155 (0,0)):=(a.block _ a8 aB).trans vb;obtain⟨⟨dH,eo,ef⟩,e,e,e⟩:=fB f;clear d a f h o;go_wp2;refine tM (v:= .agg #[ah (8),ah (1),.slice z (g.length+1) J]) a1Z u ⟨.mk (8) (1) (c::g),_,W,u,s,r.cT m _ _ _,D.cT m _ _ _,m,ht.cT (aP:= .mk (8) (1) (c::g)) K m _ _ _⟩):p:=h
def WJ(h:p:=by go_upto_region 15 with fail;have T:=A (λ(d e:Int)i l o p f(U:a7 (x bP.heap::aR (x aA.heap)) f (dZ b.ap) (q (aZ cO 0) n eq))(V:ds (x bP.heap::aR (x aA.heap)) f (cx d e) i l o p)(W:∀E,E∈x bP.heap::aR (x aA.heap)->E<x f.heap)=>show aQ aK 71 #[aO #[q (aZ cO 0) n eq,C B b.aY],C B k,aO #[C B (cx d e).af,C B (cx d e).an,C B (cx d e).b1,q i (cx d e).am.length l,q o (cx d e).a6.length p]] f (lq (x bP.heap::aR (x aA.heap)) f (.mk (b.ap.take k++cx d e::b.ap.drop k) b.aY))from by have a:=B9 b (aZ cO 0) eq k (cx d e) i l o p f (by rw[gM.h];exact U) V a4 (by rw[gM.h];omega) W;rw[gM.h]at a;exact a);have al:=λX=>((F.refl [] gN).alloc X).a3 d4;have ao:=λY=>((F.refl [] gN).alloc Y).a3 d7;have ar:=λZ=>(((F.refl [] gN).alloc Z).drew).a3 d4;have au:=λa1=>(((F.refl [] gN).alloc a1).drew).a3 d7;refine d2 (λH=>bh H bP 0 (q (aZ cO 0) n eq)/\bh H bP 1 (C B b.aY)) ⟨d4,d7⟩ λc=>?_;refine a2 0 99 ?_;refine a2 1 100 ?_;refine a2 2 101 ?_;refine a2 5 104 ?_;refine ba 3 λg a=>?_;go_simp;refine aV a a4 λr=>?_;clear a g c;refine ba 4 λs c=>?_;go_simp;go_at_call 96;refine ab (lK (a0:=[aT]) aT _ _ [14,15,15,16,17] _ (Bf.I bc) a8 m (by first|exact(nK gN [14,15,15,16,17] a4 bf).drew|exact nK gN [14,15,15,16,17] (λa aL=>kl) bf|exact nK (ed gN) [14,15,15,16,17] (λa aL=>kl) bf) bf bf) ?_;rintro av J⟨a,rfl,aw,g,a5:ak _⟩;have K:=A (show F [aT] gN J from F.then (F.ca bc) g);have L:=A (nb.a9 K);have ax:=K.size;obtain⟨⟨ay,az⟩,aC,aD⟩:=b8 L.box;clear g;go_simp;refine aV c a4 λt=>?_;clear c s r;refine ba 6 λz g=>?_;go_simp;go_at_call 34;refine ab (fM aT _ _ _ (a5.I bc) m m) ?_;rintro aE r⟨c,rfl,_,_,s,a9:ak _⟩;have M:=A (show F [aT] J r from F.then (F.ca bc) s);have N:=A (L.a9 M);have aF:=M.size;obtain⟨⟨aG,aH⟩,aI,aJ⟩:=b8 N.box;clear s;go_simp;refine aV g a4 λD=>?_;clear g z t;refine ba 7 λQ z=>?_;go_simp;go_at_call 72;refine ab (r9 (a0:=bP.heap.size::List.range aA.heap.size) a c _ a4) ?_;rintro aM g⟨aa,ad,ae,ag,rfl,s,O:ak _⟩;have P:=A (show F [aT] r g from F.aa (F.ca bc) s);obtain⟨t,ah⟩:=aq (N.a9 P) (a9.I (show F [] r g from F.aa bc s));have aN:=P.size;obtain⟨⟨aS,aU⟩,aW,aX⟩:=b8 t.box;clear s;go_simp;refine aV z a4 λai=>?_;clear z Q D;refine ba 8 λaj Q=>?_;go_simp;go_at_call 71;refine ab (T a c aa ad ae ag _ ((show a7 _ g (dZ b.ap) (q (aZ cO 0) n eq)from by have:=t.ae.br;rw[oo.h]at this;exact this).I bc) ⟨O.a.I bc,O.k.I bc⟩ a4) ?_;rintro a' s⟨z,D,rfl,R,S:ak _⟩;have d:=A (show F [] g s from F.aa bc R);obtain⟨e,g⟩:=aq (t.a9 d.ca) (ah.I d);have f:=d.size;obtain⟨⟨i,l⟩,d,d⟩:=b8 e.box;obtain⟨⟨iP,hw⟩,d,d⟩:=b8 e.qv;(have d:(ch.mk (b.ap.take k++cx a c::b.ap.drop k) b.aY).ap.length=n+1:=by show j (b.ap.take k++cx a c::b.ap.drop k)=_;simp[gM.h];omega);have f:=A (show(ch.mk (b.ap.take k++cx a c::b.ap.drop k) b.aY).aY=b.aY from u);rw[d]at S;rw[d,f.h];have o:=A (show a7 (x bP.heap::aR (x aA.heap)) s (dZ (b.ap.take k++cx a c::b.ap.drop k)) (q z (n+1) D)from S);clear R d;go_simp;refine aV Q a4 λp=>?_;clear Q aj ai;refine ba 9 λr d=>?_;go_simp;refine aV d (by(try dsimp only);(have f:=F.es s (x y.heap+1) (q z (n+1) D) (C B b.aY);exact⟨f.aJ i aB,f.aJ l aB⟩)) λf=>?_;clear d r p;refine cG ?_;clear f;go_wp2;have d:=WC b.ap k (cx a c);have d:=WE a c;refine tM (v:= .agg #[.slice z (n+1) D,.int .i64 b.aY]) a1I u (qw.fin (aA:=aA) (aP:=bP.heap.size) (hL:=FJ+1+1) (eG:=b.ap.take k++cx a c::b.ap.drop k) FM e.sX g gc j2 m m o)):p:=h
def X8(h:p:=by have Z:=rI.size;obtain⟨L,M,N,t,O⟩:=eV (MD.a9 rI (λa3 bw=>aN (by rw[ks.h];exact Fx))) (((X3.aa m5).aa ow).trans rI (λa4 bw=>bk qY)) (((X2.I m5).I ow).a9 rI (λa5 bw=>qY)) ((⟨(MB.d.I m5).I ow,(MB.r.I m5).I ow⟩:cr l0 rH n bi bj (aZ b iC) gX).dX rI (λa6 bw=>aN (by rw[ks.h];exact Fx)):cr l0 uC n bi bj (aZ b iC) gX) ((rI.block (x y.heap+1) m aB).trans ((ow.block (x y.heap+1) m a8).trans ((m5.block (x y.heap+1) m a8).trans X4)));obtain⟨⟨d4,d7⟩,_⟩:=b8 ME;have e0:=rI.aJ (ow.aJ (m5.a3 e0) a8) aB;have dD:=rI.aJ (ow.aJ (m5.a3 dD) a8) aB;go_upto_region 18 with fail;refine d2 (λo=>bh o y 0 (a1 bi n.ai bj)/\bh o y 1 (a1 (aZ b iC) n.ag gX)/\bh o bP 0 (a1 uz jF.ap uA)/\bh o bP 1 (C B jF.aY)) ⟨e0,dD,d4,d7⟩ λe=>?_;refine a2 0 94 ?_;refine a2 1 95 ?_;refine a2 2 96 ?_;refine a2 3 97 ?_;refine a2 4 98 ?_;refine ba 5 λi c=>?_;go_simp;go_at_call 72;refine ab (r9 (a0:=l0) 14 v _ (λg aL=>a1J)) ?_;rintro a7 z⟨P,Q,R,S,rfl,d,D:ak _⟩;have a:=A (F.aa bc d:F [] uC z);have ad:=a.size;obtain⟨e0,dD,d4,d7⟩:=a.ex e0 dD d4 d7;clear d;go_simp;refine aV c a1K λl=>?_;clear c i e;refine ba 6 λs i=>?_;go_simp;go_at_call 71;refine ab (B9 (a0:=l0) jF uz uA dJ (cx 14 v) P Q R S _ (L.I (a.aa bc)) ⟨D.a.I bc,D.k.I bc⟩ (by have:=FT.h;omega) (by have:=FT.h;omega) (λg aL=>a1J)) ?_;rintro ae E⟨T,U,rfl,k,e⟩;obtain⟨c,d⟩:=bX (ch.mk (jF.ap.take dJ++cx 14 v::jF.ap.drop dJ) jF.aY);rw[<-d]at e⊢;have V:=A (by rw[d,bC,Mv,Mw,hY jF]:bC c=bC jF+2);clear d;obtain⟨d,W⟩:=aq (F.aa bc k:F [] z E) e;have af:=d.size;obtain⟨e0,dD,d4,d7⟩:=d.ex e0 dD d4 d7;clear k e;go_simp;refine aV i a1K λX=>?_;clear i s l;refine ba 7 λY H=>?_;go_simp;go_at_call 62;refine ab (W1 (a0:=l0) n bi bj (aZ b iC) gX f c T U _ ⟨t.d.I ((a.aa d).aa bc),t.r.I ((a.aa d).aa bc)⟩ (W.I bc) wn r uy m m m (λg aL=>a1J)) ?_;rintro ag s⟨e,i,k,l,rfl,J,K:ak _⟩;have t:=A (F.aa bc J:F [] E s);obtain⟨e0,dD,d4,d7⟩:=t.ex e0 dD d4 d7;have o:=A ((a.aa d).aa t);obtain⟨⟨iP,hw⟩,a,a⟩:=b8 ((o.block (x y.heap+1) m a8).trans O);have a:j (n.ag.set f {r with aD:=c})=j n.ag:=kn;simp only[a]at K⊢;clear J a;go_simp;refine aV H a1K λt=>?_;clear H Y X;refine ba 8 λz d=>?_;go_simp;refine aV d (by(try dsimp only);(have a:=F.es s (x y.heap+1) (a1 e n.ai i) (a1 k n.ag l);exact⟨a.aJ e0 GV,a.aJ dD GV,a.aJ d4 GV,a.aJ d7 GV⟩)) λa=>?_;clear d z t;refine cG ?_;clear a;go_wp2;have a:=F.es s (x y.heap+1) (a1 e n.ai i) (a1 k n.ag l);have d:=V.h;have d:=MC.h;refine tM (v:= .agg #[a1 e n.ai i,a1 k n.ag l]) ZK u ⟨⟨n.ai,n.ag.set f {r with aD:=c}⟩,e,i,k,l,p+1+1+1+1,ux.put m f _ Mx (cA My m) (by show bC c<=_;omega),by show _=Ending.returned (aO #[a1 e n.ai i,q k (j (n.ag.set f _)) l]);rw[kn],?_,?_,m,?_⟩;(.exact(M.aa o).trans a (λc bw=>bk qY));(.exact(N.I o).a9 a (λc bw=>qY));.exact(K.dX a (λa bw=>aN ZL)).sub (λg aL=>aN (by rw[ks.h,gL.h];exact a0T))):p:=h
def WK(h:p:=by go_upto_region 11 with fail;have a:=nb.os.Bc k rF;rw[rG.h]at a;obtain⟨J,g,r,t,z,D⟩:=(show cO<x gN.heap/\aW gN cO (k*5) (C B s.af)/\aW gN cO (k*5+1) (C B s.an)/\aW gN cO (k*5+2) (C B s.b1)/\aW gN cO (k*5+3) (q gI (j s.am) gB)/\aW gN cO (k*5+4) (q i8 (j s.a6) gC)from a);have c:=ek.Lj nb.jt rF;rw[rG.h]at c;have f:=A (show ds [] gN s gI gB i8 gC from c.none);have O:=nb.os.lt cO Qy;have P:cO≠x bP.heap:=λdb=>nb.os.dY cO Qy nu;obtain⟨Q,R,S,T,U⟩:=hV ((F.refl [] gN).drew.a3 g) ((F.refl [] gN).drew.a3 r) ((F.refl [] gN).drew.a3 t) ((F.refl [] gN).drew.a3 z) ((F.refl [] gN).drew.a3 D);clear a c;refine d2 (λc=>bh c bP 0 (q (aZ cO 0) n eq)) (by(try dsimp only);exact d4) λd=>?_;refine a2 0 73 ?_;refine a2 1 74 ?_;refine a2 2 75 ?_;refine a2 3 76 ?_;refine a2 4 77 ?_;refine a2 5 78 ?_;refine a2 6 79 ?_;refine a2 7 80 ?_;refine ba 8 λi a=>?_;go_simp;refine aV a a4 λK=>?_;clear a i d;refine ba 9 λL E=>?_;go_simp;go_at_call 100;refine ab (W5 s gI gB i8 gC _ (Bf.I aj.drew) aB m ⟨f.a.I aj.drew,f.k.I aj.drew⟩ m m) ?_;rintro db d⟨a,i,l,o,p,M,V,W,rfl,H,N:ak _,I⟩;have c:=A (show F [aT] gN d from(F.refl [] gN).drew.ca.then H);have f:=A (nb.a9 c);have J:=c.size;obtain⟨⟨J,O⟩,P,Q⟩:=b8 f.box;have R:=c.aJ g aB;have S:=c.aJ r aB;have T:=c.aJ t aB;have t:=c.aJ z aB;have z:=c.aJ D aB;have c:=A (show aS (x bP.heap::aR (x aA.heap)) (x aA.heap) d 47 5 (q (aZ cO 0) n eq) (b.ap.map dR)from by have:=f.ae;rwa [oo.h]at this);have D:=λg=>m4 c g;have U:=A (c.M4 k (ih.enc (I.all (λc r=>by(have V:c<x gN.heap:=by rcases cK.1 r with g|g;(.exact(nb.os.lt c g).2);.grind);exact V))));clear H I;go_simp;refine aV E a4 λg=>?_;clear E L K;refine a2 10 83 ?_;refine ba 11 λr c=>?_;go_simp;refine aV c (by(try dsimp only);(have E:=F.re d cO (k*5) (C B a.af) (C B a.an) (C B a.b1) (q i (j a.am) l) (q o (j a.a6) p);exact E.aJ J aB)) λE=>?_;clear c r g;refine cG ?_;clear E;obtain⟨r,c⟩:=bX (((((bZ d ⟨cO,k*5,G⟩ (C B a.af)).setCell ⟨cO,k*5+1,G⟩ (C B a.an)).setCell ⟨cO,k*5+2,G⟩ (C B a.b1)).setCell ⟨cO,k*5+3,G⟩ (q i (j a.am) l)).setCell ⟨cO,k*5+4,G⟩ (q o (j a.a6) p));obtain⟨g,E⟩:=aq (show F [cO] d r from by rw[c];exact F.re d cO (k*5) (C B a.af) (C B a.an) (C B a.b1) (q i (j a.am) l) (q o (j a.a6) p)) (show aS (x bP.heap::aR (x aA.heap)) (x aA.heap) r 47 5 (q (aZ cO 0) n eq) ((b.ap.map dR).set k (dR a))from by rw[c];exact U);rw[<-c];clear c J O P Q R S T t z D;obtain⟨⟨u0,u1⟩,_⟩:=b8 ((g.block (x bP.heap) m aB).trans f.box);obtain⟨⟨iP,hw⟩,c,c⟩:=b8 ((g.block (x y.heap+1) m aB).trans f.qv);go_wp2;have c:=FH b.ap k Be a;rw[y8.h]at c;refine tM (v:= .agg #[.slice (aZ cO 0) n eq,.int .i64 b.aY]) a1I u (qw.fin (aA:=aA) (aP:=bP.heap.size) (hL:=M) (eG:=b.ap.set k a) FM (f.sX.trans g a4) (N.a9 g a4) gc j2 m m ?_);have a:=E.br;rw[<-qo]at a;exact a):p:=h
def Q8(h:p:=by have ae:bh (aX lL (au #[] 155)) y 0 (a1 bi l bj):=((F.refl [] lL).alloc _).a3 Q4;obtain⟨E,J⟩:=aq zr.2.2 zr.2.1;have af:=zr.1;go_wp2_with fail;refine ab (lD (a0:=aF (.slice (bR lL 0) 0 0)++a0) _ l c _ ((Q5.cons (zo _)).alloc _) o7) ?_;rintro K ag⟨ai,rfl,f,n⟩;have L:=A n;obtain⟨M,N,rfl,_⟩:=bB n;have al:=f.size;obtain⟨O,P⟩:=aq (Q6.I ((aj.alloc (au #[] 155)).aa f)) ((fC.start (aT:=aT) Q7 (go:=y.heap.size+2) a8).I f);go_wp2;go_loopw [9,11](λo Q wr=>∃(b r:Nat)(s:List bn),b<=j (bg l c)/\Q=ah b/\gz (oR l (b4 aE)) (bg l c) b s/\fC aT (x y.heap+2) ((aX y (au #[a1 bi l bj,a1 bO aE bA] 126)).alloc (au #[ah 0,ah 0,q G 0 0] 155)) wr o s/\cZ b9 wr aT r/\r<=p+1+b*10/\a7 (aF o++a0) wr (aI (bg l c)) (a1 M (bg l c) N))(λ_ R _=>j (bg l c)-(intOf R).toNat);(.exact⟨0,xh,[],gr _,u,gz.nil _ _,P,O,m,L⟩);obtain⟨d,t,h,am,rfl,S,a,T,an,U⟩:=hrel;obtain⟨fh,bU,z,C⟩:=cd S a T U;have V:=a.a9.size;simp at V;have ao:bh wr y 0 (a1 bi l bj):=a.a9.aJ fG aB;have ap:bh wr y 1 (a1 bO aE bA):=a.a9.aJ fG aB;by_cases i:d<j (bg l c);(.obtain⟨ad,ar,rfl,_,av,aw⟩:=c0 C i;go_wp2;go_region_law(first|(go_simp;go_at_call 252;refine ab (E d i a0 b9 aT t _ _ (ed wr) (z.I aj.drew) aB eg ((oT.I ci).a9 bU.a9 (h7 eg)).drew ((c6.I ci).a9 bU.a9 (h7 eg)).drew (λg aL=>iT) m) ?_;rintro K wx⟨aP,ax,W,rfl,a4,D,a5,ay,az,aA,rfl,a6⟩;have ad:=D.size;simp at ad;obtain⟨e,X,Y,Z⟩:=cd (aj.drew.then D:F [aT] wr wx) (bU.fresh a6) a4 a5)|(refine step_append u _ _ 153 u (aR (x y.heap+2)) (x y.heap+2) 155 (aO #[ah 0,ah 0,q G 0 0]) 3 40 IA oQ u bf u9 _ u ((bU.call m e).alloc _) (q (bR wx 0) 1 1) [gj aP] u (o6 X (bU.below e)) (λD ee=>a2Q) oU oU aB (λg aL=>by simp at aL⊢;omega) ?_;intro D D a D;obtain⟨a2,k⟩:=aq a D));all_goals go_wp2;go_roundw;(.exact⟨d+1,W,_,m,be,fh.snoc i Y,bU.grow e a2 k,(Z.I (aj.alloc _)).a9 k.a9 (λbM bw=>GP),m,k.tw (a7.alloc (tx C eg e) _) (λg aL=>iT)⟩);simp[intOf];omega);. (have D:d=j (bg l c):=m);subst D;go_wp2_with fail;refine ab (rW _ _ _ _ _ bU.ae.br) ?_;rintro Z k⟨a2,rfl,e,W,X,rfl,Y⟩;have a:=e.size;have a:ak (F [aT] y k):=A ((ci.ca.then bU.a9).aa e);obtain⟨b,d⟩:=aq (z.I e) Y;have f:k.heap[x y.heap+1]?=H (au #[ah 0,ah 0,q G 0 0] 155 (0,0)):=((bU.a9.aa e).block _ a8 aB).trans vb;obtain⟨⟨e,i,k⟩,n,n,n⟩:=fB f;go_wp2;refine tM (v:= .agg #[ah 6,ah c,a1 W h X]) (by simp[results,Tryz.results252,go_sem,e,i,k,bn.af,bn.an,bn.a6]) u ⟨.mk 6 c h,_,t,u,J _ fh,a.cT m _ _ _,b.cT m _ _ _,m,ht.cT (aP:= .mk 6 c h) d m _ _ _⟩):p:=h
def Ze(h:p:=by go_upto_region 14 with(go_at_call 45;refine ab (jA _ _) ?_;rintro s v⟨rfl,rfl⟩;rw[i6]);go_upto_region 14 with fail;go_wp2;refine d2 (λe=>ax e ⟨x y.heap,0,G⟩=H (q bi (j n.ai) bj)/\ax e ⟨cO,Zd,G⟩=H (C B t)) (by(try dsimp only);(have a:F [] wr _:=(F.refl [] wr).drew;exact⟨a.a3 e0,a.a3 d4⟩)) λf=>?_;refine a2 0 107 ?_;refine a2 1 108 ?_;refine a2 2 109 ?_;refine a2 3 110 ?_;refine a2 4 111 ?_;refine GA (rs:=[5,9]) cB a8 ?_;refine(yU u (λb a=>?_) (yU u (λb a=>?_) pt));(.go_simp;go_at_call 148;refine ab (NP.h _ ((F.refl [] wr).drew)) ?_;rintro o m⟨c,d,g,i,k,rfl,l,_,_⟩;have uR:=A (show F [] wr m from((F.refl [] wr).drew).aa l);clear l;go_simp;refine aV a a0E λo=>?_;clear a b f;refine a2 6 106 ?_;refine a2 7 113 ?_;refine a2 8 114 ?_;refine ba 9 λp l=>?_;go_simp;refine aV l (by(try dsimp only);(have m:F [] wr _:=(uR.h.alloc (au #[C B 0,C B 0,q G 0 0] 100));exact⟨m.a3 e0,m.a3 d4⟩)) λr=>?_;clear l p o;refine ba 10 λo l=>?_;go_simp;refine aV l (by(try dsimp only);(have m:F [] wr _:=uR.h.alloc (au #[C B c,C B d,q g i k] 100);exact⟨m.a3 e0,m.a3 d4⟩)) λm=>?_;clear l o r;refine a2 11 13 ?_;refine cG ?_;clear m;have l:=A (dV.h.aa (show F [] wr _ from uR.h.alloc (au #[C B c,C B d,q g i k] 100)));go_wp2;go_ret2;exact eL.mk' fb.h l.h);.go_simp;refine aV a (by(try dsimp only);(have c:F [] wr _:=((F.refl [] wr).drew.alloc (au #[C B 0,C B 0,q G 0 0] 100));exact⟨c.a3 e0,c.a3 d4⟩)) λp=>?_;clear a b f;refine ba 5 λr g=>?_;go_simp;go_at_call 148;refine ab (NP.h _ (((F.refl [] wr).drew.alloc (au #[C B 0,C B 0,q G 0 0] 100)))) ?_;rintro z c⟨i,k,l,m,o,rfl,d,_,_⟩;have uR:=A (show F [] wr c from(((F.refl [] wr).drew.alloc (au #[C B 0,C B 0,q G 0 0] 100))).aa d);have a:=(d.block (x wr.heap) a8 a8).trans (BB wr (au #[C B 0,C B 0,q G 0 0] 100));obtain⟨⟨b,b,b⟩,b,b,b⟩:=fB a;clear a;clear d;go_simp;refine aV g a0E λd=>?_;clear g r p;refine a2 6 106 ?_;refine a2 7 113 ?_;refine a2 8 114 ?_;refine ba 10 λe a=>?_;go_simp;refine aV a (by(try dsimp only);(have b:F [x wr.heap] wr _:=uR.h.ca.trans (F.fP c (x wr.heap) (C B i) (C B k) (q l m o)) λf bw=>aN bw;exact⟨b.aJ e0 aB,b.aJ d4 aB⟩)) λb=>?_;clear a e d;refine a2 11 13 ?_;refine cG ?_;clear b;have a:=A (dV.h.aa (show F [] wr _ from uR.h.trans (F.fP c (x wr.heap) (C B i) (C B k) (q l m o)) (λb bw=>bk qY)));go_wp2;go_ret2;exact eL.mk' fb.h a.h):p:=h
def ZC(h:p:=by have k:=A (xZ.h cz mB.h);go_upto_region 9 with(first|(go_at_call 45;refine ab (jA _ _) ?_;rintro l N⟨rfl,rfl⟩;rw[mS.h])|(go_at_call 154;refine ab (vo _ _) ?_;rintro l N⟨rfl,rfl⟩;rw[BL.h])|((first|go_at_call 153|go_at_call 155);refine ab (BK.h _ (gL.h _ ci.h j2)) ?_;rintro l d⟨rfl,o,c⟩;obtain⟨e,O⟩:=aq o ((bQ.dS ci.h hz.h).trans (c.less a4));have f8:=c.cell f8 a8;have fQ:=c.cell fQ a8;have fR:=c.cell fR a8;have g6:=c.cell g6 a8;have gJ:=c.cell gJ a8;clear o c));obtain⟨P,Q⟩:=aq e.h.a9 e.h.lt;obtain⟨R,S,T,U,f,V,W,a⟩:=e.h;obtain⟨M,X,Y⟩:(cz).b3.length=j b.b3/\(cz).ae.length=j b.b3/\(cz).bm.length=j b.b3:=⟨cm j k.h.1,k.h.2⟩;have q:dx (x y.heap::a0) aA d p 77 [R,S,T,U] (mA n aG bN) (gq cz f V W):=a;obtain⟨g,r⟩:=aq (eK.f1 a) (show a7 [] d (aI b.b3) f from(cm (λZ=>a7 [] d (aI Z) f) k.h.1).mp ((q.ae 0 ⟨3,1,f,b5 (cz).b3⟩ u).br.sub a8));obtain⟨hy,mt,a3,a5,BM,a6,a9⟩:=ei a.cF;obtain⟨v,z,rfl,_⟩:=g9 g.h.1;obtain⟨D,E,rfl,_⟩:=uG g.h.2.1;obtain⟨H,J,rfl,_⟩:=bB r.h;obtain⟨ad,af⟩:=aq (λK(i:F [] d K)=>yy.h K v z D E (a1 H b.b3 J) ⟨g.h.1.I i,g.h.2.1.I i⟩ (r.h.I i) (f7.h.I (P.h.aa i))) (λL(ag:F [] d L)=>yx aA L p n aG bN (cz) t (min t 1) (e.h.I ag) m m m);clear M X Y q a a3 a5 a6 a9;go_wp2_with fail;refine d2 (λa=>aW a p 0 (a1 v n.ai z)/\aW a p 1 (a1 D n.ag E)/\aW a p 4 (a1 H b.b3 J)/\bh a y 0 (C B s.af)/\bh a y 1 (C B s.an)/\bh a y 2 (C B s.b1)/\bh a y 3 (a1 gI s.am gB)/\bh a y 4 (a1 i8 s.a6 gC)) ⟨hy,mt,BM,f8,fQ,fR,g6,gJ⟩ λX=>?_;refine a2 0 41 ?_;refine a2 1 42 ?_;refine a2 2 43 ?_;refine a2 3 44 ?_;refine a2 4 45 ?_;refine a2 5 46 ?_;refine a2 6 47 ?_;refine a2 7 48 ?_;refine a2 8 49 ?_;refine ba 9 λY q=>?_;go_simp;go_at_call 111;refine ab (ad.h _ aj.drew) ?_;rintro a3 a5⟨rfl,M⟩;have e5:=A (aj.drew.aa M:F [] d a5);clear M;go_simp;refine aV q ZD λM=>?_;clear q Y X;refine a2 10 40 ?_;refine a2 11 51 ?_;refine a2 12 52 ?_;refine a2 13 5 ?_;refine a2 14 6 ?_;refine cG ?_;clear M;go_wp2_with(go_at_call 112;refine ab (af.h _ ZE) ?_;rintro a3 X⟨rfl,q,M⟩;obtain⟨a,c⟩:=aq q M;clear q M);(try go_ret);exact GL.h _ _ (a.h.less a4) (O.h.trans (((bQ.dS e5.h Q.h).trans c.h).less a4)) NU):p:=h
def Vk(h:p:=by skip;go_wp2_with fail;refine ab (Vh er.h f7.h f dU dk w7.h.sS AZ.h Fc f9.h bc m) ?_;rintro H s⟨a,I,c,d,rfl,b,mw,eb,_,J,g⟩;obtain⟨t,z⟩:=aq (show bI l (b4 aE) dU a dk from b) mw;have K:=eb.size;obtain⟨h,i⟩:=aq (sT.h.call f9.h eb m2 m) (show a7 (x cj.heap::aR (x y.heap+2)) s (c3 a.a6) (a1 c a.a6 d)from g.sub a4);obtain⟨_,_,⟨L,M,N⟩,⟨O,P,Q⟩,_⟩:=h.h.cells;obtain⟨e,k⟩:=aq (z.h.set (cL:=cj.heap.size) m (C B a.af) (C B a.an) (a1 c a.a6 d)) (h.h.set a8 i.h);clear mw eb g b km jw;have R:=k.h.lt;have S:=e.h.size;have g:=A (i.h.oY (cL:=cj.heap.size) a8 (C B a.af) (C B a.an) (a1 c a.a6 d));by_cases li:d6 a<=30;(. (have n:¬lE a<0:=LH);go_wp2_with fail;refine ab (pI (a0:=cj.heap.size::List.range (y.heap.size+2)) a _ _ ⟨_,_,u,g.h⟩) ?_;rintro o D⟨rfl,b⟩;obtain⟨n,E⟩:=aq (e.h.I b) (k.h.I b);obtain⟨o,p,⟨T,T,T⟩,_,r⟩:=E.h.cells;have E:=A (r.tail:a7 (aR (x y.heap+2)) D (c3 a.a6) (a1 o a.a6 p));obtain⟨⟨d4,d7,eI⟩,D,D,D⟩:=n.h.h;have D:=A (⟨t.h,li⟩:bI l (b4 aE) dU a dk/\d6 a<=30);clear b r;go_wp2;refine tM (v:= .agg #[.int .i64 a.af,.int .i64 a.an,a1 o a.a6 p]) AY u (n.h.post E.h D.h m));.have p:lE a<0:=xw li;go_wp2_with fail;refine ab (pI (a0:=cj.heap.size::List.range (y.heap.size+2)) a _ _ ⟨_,_,u,g.h⟩) ?_;rintro r D⟨rfl,n⟩;have b:=A (e.h.I n);obtain⟨F6,F7⟩:=b.h.cells;have E:=b.h.size;clear n;go_wp2_with fail;refine ab (ry er.h f7.h _ dU dk 12 b.h bc (b.h.ip kt.h) m m (rz.h dU) m m a4 F8) ?_;rintro T n⟨aP,U,w8,w9,rfl,rA,mw,eb,_,o,we⟩;rw[show(12:Int).toNat=12 from u,yi]at o;obtain⟨F9,Fa,Fb⟩:=bb mw (we.sub (eH m):a7 (aR (x y.heap+2)) n (c3 aP.a6) (q w8 (j aP.a6) w9)) (show bI l (b4 aE) dU aP dk/\d6 aP<=30 from⟨rA.1,rA.2 ql.h⟩);obtain⟨⟨d4,d7,eI⟩,a,a,a⟩:=mw.h;exact a0G):p:=h
def Vm(h:p:=by skip;go_wp2_with fail;refine ab (Vf er.h f7.h f dU dk w7.h.sS Vl.h LI f9.h bc m) ?_;exact a0H):p:=h
def Vn(h:p:=by skip;go_wp2_with fail;refine ab (Vg er.h f7.h f a dU dk w7.h.sS LG LJ f9.h bc m) ?_;exact a0H):p:=h
def SB(h:p:=by have a:=e5.size;obtain⟨n0,j0,je,xR,xS,xT⟩:=e5.fu dD ez rd gD e1 ex;clear vJ A8 A9;go_simp;refine aV cw SD λfw=>?_;clear cw di e2;refine ba 15 λdi cw=>?_;go_simp;refine aV cw (by(try dsimp only);go_keep) λe2=>?_;clear cw di fw;refine ba 16 λdi cw=>?_;refine jc u _ _ _ u ((x cj.heap+1)::fa) (x cj.heap) 40 (aO #[q G 0 0,q G 0 0,C B 0,q G 0 0,C B 0]) 5 88 w2 r6 u bf (q e4 av cD) _ (c6.h.ae.I e5.h) av pd.h _ (eY (ns r)) u Kd (λb c=>ft (hz b (by rw[ks.h];exact gO _ c)) a) m m m u u u ?_;intro hQ ey d b;have pe:=A b;have a:=b.a9;obtain⟨⟨c,c⟩,c,c⟩:=b8 (c6.lX e5 b);have k0:=A (λc(e:c∈aF (q e4 av cD))=>(c6.ae.lt c e).1);have gK:=a.aJ n0 (λbw=>yP);have gh:=a.aJ j0 (λbw=>yP);have hP:=a.aJ je (λbw=>yP);have xU:=a.aJ xR (λbw=>yP);have xV:=a.aJ xS (λbw=>yP);have xW:=a.aJ xT (λbw=>yP);clear b a;refine aV cw Kf λfw=>?_;clear cw di e2;refine a2 17 34 ?_;refine ba 18 λdi cw=>?_;go_simp;refine aV cw (by(try dsimp only);(have a:=(F.refl [x cj.heap+1] d).setCell (p:=k6 cj 1 1) (aN a8) (q hQ (av+1) ey);exact⟨a.aJ gK aB,a.aJ gh aB,a.aJ hP aB,a.aJ xU aB,a.aJ xV aB,a.aJ xW aB⟩)) λe2=>?_;exact SF):p:=h
def Ue(h:p:=by clear cw di e2;refine ba 9 λj e=>?_;refine jc u _ _ _ u ((x aA.heap+1)::fa) (x aA.heap) 47 (aO #[C B 0,C B 0,C B 0,q G 0 0,q G 0 0]) 5 72 sy lk u bf (q iO av eq) _ (c6.h.ae.I e5.h) av pd.h _ (ek.raw ⟨s,AA,AB,AC,AD⟩) u xQ.h (λa b=>ft (hz.h a (gO _ b)) yd) m m m u u u ?_;intro c d f b;have k:=A b;have a:=b.a9;obtain⟨⟨g,g⟩,g,g⟩:=b8 (c6.h.lX e5.h b);obtain⟨l,k0⟩:=aq (Ud.h.beside b.a9 b.dJ) (λg(n:g∈aF (q iO av eq))=>c6.h.ae.lt g n);have g:=a.aJ hd (λbw=>yQ);have n:=a.aJ jQ (λbw=>yQ);have o:=a.aJ pR (λbw=>yQ);have r:=a.aJ sd (λbw=>yQ);have t:=a.aJ A7 (λbw=>yQ);have v:=a.aJ mp (λbw=>yQ);clear b a;refine aV e a4 λz=>?_;clear e j fw;refine a2 10 26 ?_;refine ba 11 λe b=>?_;go_simp;refine aV b (by(try dsimp only);(have a:=(F.refl [x aA.heap+1] f).setCell (p:=k6 aA 1 0) (aN a8) (q c (av+1) d);exact⟨a.aJ g a4,a.aJ n a4,a.aJ o a4,a.aJ r a4,a.aJ t a4,a.aJ v a4⟩)) λa=>?_;clear b e z;refine cG ?_;clear a;go_wp2;go_roundw;(.refine⟨av+1,c,d,ck++[⟨s,AA,AB,AC,AD⟩],m,be,?_,?_,?_⟩;(.rw[fz];exact c6.h.sw e5.h k.h 0);(.rw[fz,oo.h,sx.h];rfl);.rw[EN];exact l.h.dX ((F.refl [x aA.heap+1] f).setCell (p:=k6 aA 1 0) (aN a8) (q c (av+1) d)) a4);simp[intOf];omega):p:=h
def a08(h:p:=by clear cw di e2;refine ba 17 λdi cw=>?_;refine jc u _ _ _ u (mp::(x y.heap+1)::a0) (x cj.heap) 40 (aO #[q G 0 0,q G 0 0,ah 0,q G 0 0,ah 0]) 5 88 w2 r6 u bf (q e4 av cD) _ (c6.ae.I (gp.aa hg)) av pd _ (eY {r with aD:=l2 r.aD}) u (by show cu _ _ [aI r.aC,aI r.aG,.int r.bs,dZ (l2 r.aD).ap,.int (l2 r.aD).aY] _;exact a0I) (λa b=>by have:=hz a (gO _ b);exact a1L) Qs m m u u u ?_;intro wL fu yM hk;have yN:=A (c6.sw (gp.aa hg) hk 1);obtain⟨⟨a,a⟩,a,a⟩:=b8 (c6.lX (gp.aa hg) hk);have k5:=A (λbw=>Qx:k1∉aF (q e4 av cD));have f8:=hk.a9.aJ f8 k5;have fQ:=hk.a9.aJ fQ k5;have fR:=hk.a9.aJ fR k5.h;have g6:=hk.a9.aJ g6 k5.h;exact a0J):p:=h
def GD(h:p:=by obtain⟨D,E,h,_,F,G⟩:=c0 (wA.h.a.I dV.h) eX;subst h;obtain⟨c,i,l,n⟩:=cd (λ(o:bS 0 s.am[k] (j ao - 1)=false)=>show bD=(-1,false)by rw[jk.h,sL.h k eX o]) (λp=>yu (f:=λr=>bS 0 r (ao.length - 1)) eX mz.h p) (fE s.am k eX) (show j (b5 ((s.am.take k).map λt=>aU ao (bF t) 0))=k by rw[cN];simp;omega);generalize s.am[k]=b at*;by_cases d:b<0;(.have fb:=A (c.h (qP (aN d)));go_wp2;exact Qz);by_cases v:(j ao:Int)<=b;(.have fb:=A (c.h (qP (bk m)));go_wp2;exact Qz);obtain⟨a,rfl⟩:=dA (show 0<=b by omega);(have e:a<j ao:=m);obtain⟨H,I,w,_,J,K⟩:=c0 (gd.h.I dV.h) e;subst w;obtain⟨y,z⟩:=aq (i.h (mD m m)) (show aU ao ((a:Int)).toNat 0=ao[a]by simp[e]);generalize ao[a]=g at*;clear d v;go_wp2_with(first|(at_builtin;refine g2 u _ _ 34 u [] (x wc.heap) 3 (C B 0) 1 8 vy eT u bf (q e4 k cD) _ bU.h k n.h #[C B g] [.int g] u ⟨u,bu⟩ a8 m m m u u u ?_;intro c d a a;have b:=A a;clear a));go_roundw;(.refine⟨k+1,c,d,m,be,u,b.h.bm bU.h hh.h,?_,y.h⟩;rw[l.h,fz,ha,mb,z.h,q3];exact b.h.ae);simp[intOf];omega):p:=h
def T4(h:p:=by go_simp;refine aV cw bq λb=>?_;clear cw di fw;refine ba 3 λdi cw=>?_;go_simp;go_at_call 61;refine ab (Kw _ aj.drew) ?_;rintro d c⟨e,f,i,j,rfl,a,Ec:ak _⟩;have hg:=A (aj.drew.aa a:F [] bP c);have c:=hg.size;obtain⟨c,c,c,c,c,c⟩:=hg.fu Kv d4 d7 eI ph Ae;clear a;go_simp;refine aV cw bq λfw=>?_;clear cw di b;refine ba 4 λdi cw=>?_;go_simp;exact a0K):p:=h
def ZS(h:p:=by refine a2 0 105 ?_;refine a2 1 106 ?_;refine a2 2 107 ?_;refine a2 3 108 ?_;refine a2 4 109 ?_;refine a2 5 110 ?_;refine a2 6 111 ?_;refine a2 7 112 ?_;refine a2 8 113 ?_;refine a2 9 114 ?_;refine a2 10 115 ?_;refine a2 11 116 ?_;refine ba 12 λd a=>?_;go_simp;go_at_call 208;refine ab (tc.h _ aj.drew) ?_;rintro l e⟨rfl,c⟩;have gp:=A (show F [] hi e from aj.drew.aa c);clear c;go_simp;refine aV a a0L λf=>?_;clear a d e2;refine a2 13 118 ?_;refine a2 14 119 ?_;refine a2 15 120 ?_;refine a2 16 121 ?_;refine a2 17 122 ?_;refine a2 18 123 ?_;refine a2 19 124 ?_;refine a2 20 125 ?_;refine a2 21 126 ?_;refine a2 22 127 ?_;refine a2 23 128 ?_;refine a2 24 129 ?_;refine a2 25 130 ?_;refine a2 26 131 ?_;refine ba 27 λg a=>?_;go_simp;go_at_call 208;refine ab (uN.h _ gp.h) ?_;rintro n i⟨rfl,d⟩;have jG:=A (show F [] hi i from gp.h.aa d);clear d;go_simp;refine aV a Om λc=>?_;clear a g f;refine a2 28 133 ?_;refine a2 29 134 ?_;refine a2 30 104 ?_;refine cG ?_;clear c;go_wp2;go_roundw;(.exact⟨k+1,H (hE.ae.take (j b.b3),hE.bm.take (j b.b3)),m,be,hh.h.aa (pA.h.aa jG.h),n1.h.symm,bk ⟨hS,hE,yJ,NZ,Nat.succ_pos _,u,BV.h.I jG.h,O0,u,r5,BU⟩⟩);simp[intOf];omega):p:=h
def ZR(h:p:=by refine a2 0 105 ?_;refine a2 1 106 ?_;refine a2 2 107 ?_;refine a2 3 108 ?_;refine a2 4 109 ?_;refine a2 5 110 ?_;refine a2 6 111 ?_;refine a2 7 112 ?_;refine a2 8 113 ?_;refine a2 9 114 ?_;refine a2 10 115 ?_;refine a2 11 116 ?_;refine ba 12 λc a=>?_;go_simp;go_at_call 208;refine ab (tc.h _ aj.drew) ?_;rintro j d⟨rfl,b⟩;have gp:=A (show F [] hi d from aj.drew.aa b);clear b;go_simp;refine aV a a0L λe=>?_;clear a c e2;refine a2 13 118 ?_;refine a2 14 119 ?_;refine a2 15 120 ?_;refine a2 16 121 ?_;refine a2 17 122 ?_;refine a2 18 123 ?_;refine a2 19 124 ?_;refine a2 20 125 ?_;refine a2 21 126 ?_;refine a2 22 127 ?_;refine a2 23 128 ?_;refine a2 24 129 ?_;refine a2 25 130 ?_;refine a2 26 131 ?_;refine ba 27 λf a=>?_;go_simp;go_at_call 208;refine ab (uN.h _ gp.h) ?_;rintro k i⟨rfl,c⟩;have jG:=A (show F [] hi i from gp.h.aa c);clear c;go_simp;refine aV a Om λb=>?_;clear a f e;refine a2 28 133 ?_;refine a2 29 134 ?_;refine a2 30 104 ?_;refine cG ?_;clear b;exact a0M):p:=h
def Yn(h:p:=by obtain⟨x,y,rfl,_,z,o⟩:=c0 (Nt.h.a9 wz a4) eX;have q:=Yl.h _ (dM eX);have d:=A (Yi (ae:=jl) eX);obtain⟨a,h⟩:=dA (a4:0<=ce[k]);(have r:a<j b.ae:=a4);(have e:a<j ((ce.take k).foldl k2 jl):=by rw[n5.h];exact r);have s:=Ns (ce.take k) jl 0 (Yk.mono m) (m:(0:Int)<=1000000000000) _ (dM e);obtain⟨f,D,c,E,H,I,J⟩:=aL.f.jl.gg e;have i:=A (Yh e);(have t:j (ce.take k)=k:=aB);rw[t]at s;rw[h]at o d;rw[i.h]at d;obtain⟨l,u⟩:=aq (λv=>by have g:=t5.h;rw[c]at g⊢;exact eK.uD g a v:∀g,eK a0 aA (bZ wr (bl f a) (C B g)) p n aG bN {b with ae:=((ce.take k).foldl k2 jl).set a g} hc mM ls (a1 gI bN gB) gK gh (a1 (aZ eE 0) b.bm By)/\bQ a0 wr (bZ wr (bl f a) (C B g))) (λK=>aj.setCell (aN (by rw[c];exact L0)) _:∀w,F (aF gh) wr (bZ wr (bl f a) (C B w)));rw[c,n5.h]at Nu;clear aL wz Bz q i h c;generalize((ce.take k).foldl k2 jl)[a]=c at*;go_wp2;go_roundw;(.exact⟨k+1,m,be,by rw[d.h];exact(l.h (c+1)).1,hh.h.then (u.h (c+1)),kX.h.trans (l.h (c+1)).2⟩);simp[intOf];omega):p:=h
def VK(h:p:=by refine lW cw QQ λi=>?_;refine ba 8 λk a=>?_;go_simp;go_at_call 254;refine(Ky (a0:=[]) _ rk (j ao:Int) _ (er.h.I (bY z)) m eP).mono λl n c=>?_;obtain⟨d,p,r,s,rfl,o,z⟩:=ug z c;go_simp;refine lW a QQ λt=>?_;refine ba 9 λv e=>?_;go_simp;go_at_call 139;refine ab (io.h bi bj pZ gX _ _ _ (ao++rC) (up++ps) d b e4 cD _ Fr (gM.h _ (bY z)) (gd.h.I (bY z)) (fs z 0) (fs z 2) (f7.h.I (bY z)) sK.h aB aB m) ?_;rintro w x⟨fx,mu,pm,pn,rfl,f,g⟩;have z:=nD z f g;go_simp;refine lW e QQ λa=>?_;exact VL):p:=h
def SO(h:p:=by go_simp;refine aV cw bq λe2=>?_;clear cw di fw;refine ba 4 λdi cw=>?_;go_simp;refine aV cw bq λc=>?_;clear cw di e2;refine ba 5 λdi cw=>?_;refine jc u _ _ _ u (dm::e6::bM::lY) (x aA.heap) 47 (aO #[ah 0,ah 0,ah 0,q G 0 0,q G 0 0]) 5 72 sy lk u bf (q e4 mr cD) _ (c6.ae.I e5) mr tZ _ (dR (cx 14 v)) (kd _) (ih.enc ⟨mq sz.a λg aL=>aN (ms g aL),mq sz.k λg aL=>aN (ms g aL)⟩) (λg aL=>E8) E9 m m u u u ?_;intro a a a a;obtain⟨b,_⟩:=c6.lX e5 a;obtain⟨⟨d,d⟩,d,d⟩:=b8 b;have xY:=A (c6.push e5 (cx 14 v) a);clear a b;simp only[vL,jL,kH];refine aV cw bq λe2=>?_;clear cw di c;refine a2 6 27 ?_;exact a0O):p:=h
def ZQ(h:p:=by refine a2 0 105 ?_;refine a2 1 106 ?_;refine a2 2 107 ?_;refine a2 3 108 ?_;refine a2 4 109 ?_;refine a2 5 110 ?_;refine a2 6 111 ?_;refine a2 7 112 ?_;refine a2 8 113 ?_;refine a2 9 114 ?_;refine a2 10 115 ?_;refine a2 11 116 ?_;refine ba 12 λc a=>?_;go_simp;go_at_call 208;refine ab (tc.h _ aj.drew) ?_;rintro e d⟨rfl,b⟩;have jG:=A (show F [] hi d from aj.drew.aa b);clear b;go_simp;refine aV a Om λb=>?_;clear a c e2;refine a2 13 118 ?_;refine a2 14 119 ?_;refine c4 15 120 ?_;refine c4 16 121 ?_;refine c4 17 122 ?_;refine c4 18 123 ?_;refine c4 19 124 ?_;refine c4 20 125 ?_;refine c4 21 126 ?_;refine c4 22 127 ?_;refine c4 23 128 ?_;refine c4 24 129 ?_;refine c4 25 130 ?_;refine c4 26 131 ?_;refine c4 27 132 ?_;refine c4 28 133 ?_;refine a2 29 134 ?_;refine a2 30 104 ?_;refine cG ?_;clear b;exact a0M):p:=h
def T5(h:p:=by go_simp;exact a0K):p:=h
def Ub(h:p:=by refine aV cw (it z) λo=>?_;refine dj 9 44 ?_;refine g8 10 λp e=>?_;go_simp;refine aV e (it (fn z (aj.alloc _))) λs=>?_;refine g8 11 λt f=>?_;refine tU (aP:=eY (.mk r.bT.aC [] r.bT.bs fx)) Ax z 0 u ⟨kV (os:=[⟨40,5,.slice e4 av cD,vZ.map eY⟩]) 0 (jd z 2),a7.nil _ _ _ _ 0 m,u,kV 0 (jd z 1),u,bu⟩ m (λb DX v c A=>?_) u Mz;refine aV f (it c) λB=>?_;refine dj 12 47 ?_;have d:=ra (ra (lV (kW:=[(dc l,.slice jv l.length eU)]) c a8) U9) fo;obtain⟨⟨C,D⟩,E,F⟩:=b8 d.h.c.mW;refine pS λG g=>?_;go_simp;refine ng g bu ?_;refine pD ?_;have j:=rb (zU d (nE U7 gW) cC.h m (q b (av+1) DX)) gW;go_wp2;go_roundw;(.refine⟨av+1,vZ++[.mk r.bT.aC [] r.bT.bs fx],b,DX,m,be,EK,?_,?_⟩;(.intro k n;rcases cK.1 n with a|a;(.exact iY.h k a);.rw[kC]at a;subst a;exact⟨r,U8.h,u,u,u,Ua,mu⟩);.rw[mY];exact j.h);simp[intOf];omega):p:=h
def SR(h:p:=by go_simp;refine aV cw bq λc=>?_;clear cw di e2;refine ba 5 λdi cw=>?_;refine jc u _ _ _ u (dm::e6::bM::lY) (x aA.heap) 47 (aO #[ah 0,ah 0,ah 0,q G 0 0,q G 0 0]) 5 72 sy lk u bf (q e4 mr cD) _ (c6.ae.I e5) mr tZ _ (dR (cx 15 v)) (kd _) (ih.enc ⟨mq sz.a λg aL=>aN (ms g aL),mq sz.k λg aL=>aN (ms g aL)⟩) (λg aL=>E8) E9 m m u u u ?_;intro a a a a;obtain⟨b,_⟩:=c6.lX e5 a;obtain⟨⟨d,d⟩,d,d⟩:=b8 b;have xY:=A (c6.push e5 (cx 15 v) a);clear a b;simp only[vL,jL,kH];refine aV cw bq λe2=>?_;clear cw di c;refine a2 6 48 ?_;exact a0O):p:=h
def Fd(h:p:=by have o:lE cc<0:=xw li;go_wp2_with fail;refine ab (pI (a0:=cj.heap.size::List.range (y.heap.size+2)) cc _ _ ⟨_,_,u,n8.h⟩) ?_;rintro p q⟨rfl,a⟩;have b:=A (jg.h.I a);obtain⟨h,i⟩:=b.h.cells;have r:=b.h.size;clear a;go_wp2_with fail;refine ab (ry er.h f7.h _ dU dk 12 b.h bc (b.h.ip kt.h) m m (rz.h dU) m m a4 F8) ?_;rintro s j⟨a,t,e,f,rfl,c,d,k,_,n,g⟩;rw[show(12:Int).toNat=12 from u,yi]at n;obtain⟨b,n,o⟩:=bb d (g.sub (eH m):a7 (aR (x y.heap+2)) j (c3 a.a6) (a1 e a.a6 f)) (⟨c.1,c.2 ql.h⟩:bI l (b4 aE) dU a dk/\d6 a<=30);obtain⟨⟨d4,d7,eI⟩,j,j,j⟩:=d.h;clear d k g c h i;go_wp2;refine tM (v:= .agg #[.int .i64 a.af,.int .i64 a.an,a1 e a.a6 f]) AY u (b.h.post n.h o.h m)):p:=h
def Uk(h:p:=by obtain⟨c,p,rfl,a⟩:=hrel;obtain⟨wx,rfl⟩:∃wx:a5,wx=wr:=⟨_,u⟩;obtain⟨b,q,r,t,v,w⟩:=gP (A a) (a.a3 e0) (a.a3 dD) (a.a3 sO) (a.a3 ul) (a.a3 Uj);clear a;by_cases a:c<j s.a6;(.obtain⟨x,y,e,g,rfl,z,B,h,k,d⟩:=jN kY.h a;have C:=l7 a;generalize s.a6[c]=l at*;have D:=b.h.a3 h;have E:=b.h.a3 k;have n:=A (io.h l e g f wx m m (d.I b.h));clear d;go_upto_region 10 with(first|(go_at_call 231;refine ab n.h ?_;rintro F G⟨o,rfl,d:ak _⟩;cases o));(.go_wp2;go_roundw;(.exact⟨c+1,m,be,b.h.aa d.h⟩);simp[intOf];omega);.go_wp2;go_ret;exact⟨true,u,ci.h.aa ((bW.h.aa b.h).aa d.h)⟩);. (obtain rfl:c=j s.a6:=m);go_wp2;go_roundw;(.exact⟨av+1,m,be,bW.h.aa b.h⟩);simp[intOf];omega):p:=h
def J4(h:p:=by skip;have i:=A (λc(k:0<=c)(n:c<b)=>io.h c k n);(have r:eM (b - 2).toNat<=xt:=SS);go_wp2_with fail;refine ab (QG er.h f7.h _ ao t b o9.h cV oX.h hd jQ lM.h m m m i.h m) ?_;rintro s o⟨a,z,e,f,rfl,g,d,p,_,B,h⟩;obtain⟨c,i,k⟩:=bb d (show a7 (aR (x y.heap+2)) o (c3 a.a6) (q e (j a.a6) f)from h.sub (eH m)) (show nz l (b4 aE) ao t b a from⟨g,λn=>absurd n m⟩);obtain⟨⟨dH,eo,ef⟩,n,n,n⟩:=d.h;clear d p h g dD hw;go_wp2;refine tM (v:= .agg #[.int .i64 a.af,.int .i64 a.an,.slice e a.a6.length f]) a0Q u (c.h.post i.h k.h m)):p:=h
def QW(h:p:=by skip;rw[j8];clear j8 J5;have i:=A (λc(k:0<=c)(n:c<b)=>io.h c k n);go_wp2_with fail;refine ab (J1 er.h f7.h _ ao t b f9.h cV zE.h hd jQ lM.h m m m i.h zD) ?_;rintro s o⟨a,z,e,f,rfl,g,d,p,_,r,h⟩;rw[<-tH.h]at r;obtain⟨c,i,k⟩:=bb d (show a7 (aR (x y.heap+2)) o (c3 a.a6) (q e (j a.a6) f)from h.sub (eH m)) (show nz l (b4 aE) ao t b a from⟨g,λn=>absurd n m⟩);obtain⟨⟨dH,eo,ef⟩,n,n,n⟩:=d.h;clear d p h g km jw;go_wp2;refine tM (v:= .agg #[.int .i64 a.af,.int .i64 a.an,.slice e a.a6.length f]) a0Q u (c.h.post i.h k.h m)):p:=h
def AW(h:p:=by (have b:¬lE cc<0:=LH);go_wp2_with fail;refine ab (pI (a0:=cj.heap.size::List.range (y.heap.size+2)) cc _ _ ⟨_,_,u,n8.h⟩) ?_;rintro c f⟨rfl,a⟩;obtain⟨b,g⟩:=aq (jg.h.I a) (kZ.h.I a);obtain⟨c,d,⟨h,h,h⟩,_,e⟩:=g.h.cells;have g:=A (e.tail:a7 (aR (x y.heap+2)) f (c3 cc.a6) (a1 c cc.a6 d));obtain⟨⟨d4,d7,eI⟩,f,f,f⟩:=b.h.h;have f:=A (⟨qm.h,li⟩:bI l (b4 aE) dU cc dk/\d6 cc<=30);clear a e;go_wp2;refine tM (v:= .agg #[.int .i64 cc.af,.int .i64 cc.an,a1 c cc.a6 d]) AY u (b.h.post g.h f.h m)):p:=h
def a09(h:p:=by have g6:=hk.a9.aJ g6 k5.h;exact a0J):p:=h
def Zp(h:p:=by have d:=A (λa(b:F [] wr a)=>show aQ aK 151 #[aO #[q bi (j n.ai) bj,q bO (j n.ag) bA],C B s.af,C B s.an,q e4 (j dv) cD] a (eL a bD)from by have:=Gx n bi bj bO bA s.an (q e4 (j dv) cD) dv a (f7.h.I (dV.h.aa b)) (GH.h.I b) GI s.af k0.h.bA t9.1 t9.2;exact BI);clear k0 io;go_wp2_with(first|(go_at_call 45;refine ab (jA _ _) ?_;rintro e h⟨rfl,rfl⟩;rw[i6])|(go_at_call 151;refine ab (d.h _ bc) ?_;rintro e g⟨rfl,c⟩;have f:=A (show F [] wr g from F.aa bc c);clear c));go_ret2;exact eL.mk' u (dV.h.aa f.h)):p:=h
def TX(h:p:=by refine aV cw (by first|exact it z|exact Sh z) λc=>?_;refine g8 10 λd cw=>?_;go_simp;go_at_call 105;refine ab (io.h bi bj pZ gX _ _ (ao++d3) rq w0 Le Lf _ m (gM.h.I (bY z)) (fs z 3) (fs z 2) (vZ.h.I (bY z)) y8.h aB m) ?_;rintro e f⟨fx,mu,pm,pn,rfl,a,b⟩;have z:=nD z a b;go_simp;refine aV cw (by first|exact it z|exact Sh z) λa=>?_;obtain⟨⟨a,a⟩,a,a⟩:=b8 z.h.c.mW;refine pS λa cw=>?_;go_simp;have z:=DV z uh rr (q pm (j fx.ap) pn) (C B fx.aY);exact TW):p:=h
def rf(h:p:=by refine lW cw QQ λa=>?_;exact VL):p:=h
def ZP(h:p:=by rw[oz]at uM;have n1:=A (show kY=G by rw[<-qC.h,wH.h,uy.h,oz]);clear oz wJ wK BS;go_wp2_with(first|(go_at_call 77;refine ab qF.h ?_;rintro d i⟨rfl,a,f⟩;have e:=A a;obtain⟨j,k,g,_⟩:=qD.h _ a.a9;have l:=(a.a9.a3 BT.h);clear a f g)|(go_at_call 78;refine ab (uM.h _ e.h) ?_;rintro d m⟨rfl,c,h⟩;have b:=A (nP.h.aa c);clear c h));(try go_ret);exact pu.h _ (nd.h.aa b.h) (bQ.dS b.h hz.h) On):p:=h
def Xe(h:p:=by have b:=MI.h.br;have a:a7 (aF (q (H (bl cO 0)) (j n.ag) hC)++fa) rJ (dc n.ai) (q m6 (j n.ai) m7):=MH.h.a9 jG.h (λc bw=>aN (by simp at bw;subst bw;exact L0));exact((⟨a.sub a4,by grind[a7,pK,List.length_set]⟩:cr fa rJ ⟨n.ai,n.ag.set f {r with aG:=ly}⟩ m6 m7 (H (bl cO 0)) hC).dX wu (λa bw=>aN (by rw[gL.h];exact Fx))).sub (λa a=>aN (by rw[gL.h];exact hF _ a))):p:=h
def T8(h:p:=by go_wp2_with(at_builtin;refine g2 u _ _ _ u a0 (x y.heap) 3 (ah 0) 1 8 vy eT u bf (a1 e4 fN cD) (b5 fN) bU (j fN) (cN _) _ [.int aP] u ⟨u,bu⟩ (λa b=>ft (cC a b) (bW.aa aj).size) (bW.aa aj).size m m u u u ?_;intro a a a a;have Ei:=A a);exact Tb):p:=h
def YJ(h:p:=by (have a:j (ox++[(k:Int)])=j ox+1:=a8);refine⟨k+1,tQ,tR,yD,me,cE,m,be,by rw[mB.h,a],u,yG.h.bm bU.h hh.h,by rw[mB.h,a,q3];exact yG.h.ae,by rw[mB.h,a];exact DL yE.h yG.h.a9 yG.h.dJ,BD.h,yF.h.no (λa=>by have:=a.2;rw[BF.h]at this;exact Bool.noConfusion this),NI⟩):p:=h
def VP(h:p:=by obtain⟨a,a,a,a,_⟩:=ln z gW;obtain⟨⟨Oo,Oq⟩,a,a⟩:=b8 (((bY z).block (x y.heap+2) m a8).trans cb.h.ep);go_wp2;exact tM a0R u (Aw (mC:=dT++[cx 14 bM]) cb.h.a9 j2 (λa b7=>rt) z a8 a8 (by rw[bC,iN,rm,Lb];omega))):p:=h
def O7(h:p:=by show cu _ _ [aI r.aC,aI r.aG,.int r.bs,dZ (l2 r.aD).ap,.int (l2 r.aD).aY] _;exact a0I):p:=h
def RB(h:p:=by intro g d a b;obtain⟨e,f,c⟩:=a.cq;rw[eR,gv,jO]at c;subst c;refine k e f d ⟨a,(zL.ca (cR:=aF eO)).then b.a9,λa c=>?_⟩;rcases b.dJ with a|a;(.grind[aF]);.refine bk ?_;simp only[aF,a,FW,kC,H3]at c;omega):p:=h
def VO(h:p:=by have a:=fo;obtain⟨b,b,b,b,_⟩:=ln a gW;obtain⟨⟨Oo,Oq⟩,b,b⟩:=b8 (((bY a).block (x y.heap+2) m a8).trans cb.h.ep);go_wp2;exact tM a0R u (Aw cb.h.a9 j2 (λb b7=>rt) a u u (by rw[bC];omega))):p:=h
def PG(h:p:=by exfalso;rw[iW]at b7;split at b7;(.omega);.rename_i c;(have b:ii ao (.mk af an b1 am a6)=true:=a4);simp only[ii,b6.a6,b6.af,fF,CO,CP]at b;rcases b.2 with(a|a)|a;(.cases a6 with|nil=>grind|cons d e=>simp at a);(.grind);.grind):p:=h
def SE(h:p:=by (try dsimp only);(have a:=(F.refl [x cj.heap+1] jD).setCell (p:=k6 cj 1 1) (aN a8) (q hQ (av+1) ey);exact⟨a.aJ gK aB,a.aJ gh aB,a.aJ hP aB,a.aJ xU aB,a.aJ xV aB,a.aJ xW aB⟩)):p:=h
def Vj(h:p:=by obtain⟨⟨d4,d7,eI⟩,a,a,a⟩:=mw.h;exact a0G):p:=h
def TE(h:p:=by (try dsimp only);(have a:=(F.refl [p] jD).setCell (p:=bl p 0) (aN a8) (q hQ (j dT+1) ey);exact⟨a.aJ dH aB,a.aJ eo aB,a.aJ ef aB,a.aJ pa aB,a.aJ sv aB⟩)):p:=h
def Tm(h:p:=by go_wp2_with(go_at_call 236;refine ab (Ta (a0:=a0) Ai ls rj rk wc (sB.h.I ci.h) (KH.h.I ci.h) KG cC.h) ?_;rintro f g⟨a,b,c,rfl,d:ak _,e:ak _⟩);go_ret;exact⟨a,b,c,u,ci.h.aa d.h,e.h.dF j2⟩):p:=h
def SQ(h:p:=by refine ba 7 λdi cw=>?_;exact a0S):p:=h
def Rt(h:p:=by rw[xA]at mS;go_wp2_with(first|(go_at_call 107;refine ab (gt _ _ _ _) ?_;rintro a b c;obtain⟨rfl,rfl⟩:=q0 _ _ c)|(go_at_call 160;refine ab mS ?_;rintro a b⟨rfl,d,rfl⟩));go_ret;exact⟨ew (by rw[xz.h,xA];rfl),gp.drewN _⟩):p:=h
def Q3(h:p:=by exact⟨k+1,xi,_,m,be,fh.snoc eX xj,bU.grow il xl pW,(xk.I (aj.alloc _)).a9 pW.a9 (λbM bw=>GP),m,pW.tw (a7.alloc (tx qZ eg il) _) (λg aL=>iT)⟩):p:=h
def Zm(h:p:=by refine a2 15 173 ?_;refine a2 16 174 ?_;refine c4 17 175 ?_;refine c4 18 176 ?_;refine c4 19 177 ?_;refine c4 20 178 ?_;refine c4 21 179 ?_;refine c4 22 180 ?_;refine a2 23 181 ?_;refine cG ?_;clear e2;go_wp2;go_ret2;exact eL.mk' fb.h kx.h.drew):p:=h
def UT(h:p:=by(refine A (a7.I ?_ eJ);(repeat(first|with_reducible refine a7.drew ?_|((with_reducible refine UN ?_ ?_ ?_ ?_)<;>(first|(simp;done)|omega|(intro a a;simp at a;(try simp);omega)|fail))|with_reducible refine a7.alloc ?_ _|fail)));first|done|fail):p:=h
def YI(h:p:=by go_wp2;go_roundw;(.refine⟨k+1,pc,ku,yD,me,cE,m,be,by rw[mB.h],u,hh.h,by rw[mB.h];exact bU.h,by rw[mB.h];exact yE.h,BD.h,yF.h.no (λa=>a.1 ks.h),NI⟩);simp[intOf];omega):p:=h
def a1r(h:p:=by (try dsimp only);(have a:F [] lL (aX lL (au #[a1 v9 r.aC gD,a1 tu r.aG e1,ah r.bs,q yL (l2 r.aD).ap.length ex,ah (l2 r.aD).aY] 40)):=aj.alloc _;exact⟨a.a3 f8,a.a3 fQ,a.a3 fR,a.a3 g6,a.a3 gJ⟩)):p:=h
def RC(h:p:=by intro g d a b;obtain⟨e,f,c⟩:=a.cq;rw[eR]at c;subst c;refine k e f d ⟨a,b.a9,λa a=>?_⟩;rcases b.dJ with a|a;(.grind[aF]);.grind[aF,Option.toList_some,List.mem_singleton]):p:=h
def JX(h:p:=by rcases cK.1 aL with a|a;(.exact hs _ (kT.2 ⟨_,s1 h1,a⟩));.exact(cK.1 a).elim (λa=>hs _ (JV a)) (gO _)):p:=h
def QV(h:p:=by(refine A (a7.a9 ?_ eJ (h7 eg));(repeat(first|((refine hn [cQ] ?_ ?_ a8)<;>(first|(simp;done)|(intro a b;have:=f9.h.fS.fD a b;simp;omega)|fail))|refine a7.drew ?_|refine a7.alloc ?_ _|fail)));first|done|fail):p:=h
def Ra(h:p:=by go_wp2;go_roundw;(.exact⟨k+1,z - j d.cons,m,be,be,by rw[f7.h];have:=zG.h;omega,λa b=>by rcases dE a k with b|b;(.exact mc a b);.grind,bW.alloc _⟩);simp[intOf];omega):p:=h
def QN(h:p:=by(refine A (a7.a9 ?_ eJ (h7 eg));(repeat(first|((refine hn [0,0] ?_ ?_ a8)<;>(first|(simp;done)|(intro a b;have:=tD.fS.fD a b;simp;omega)|fail))|refine a7.drew ?_|refine a7.alloc ?_ _|fail)));first|done|fail):p:=h
def QR(h:p:=by(refine A (a7.a9 ?_ eJ (h7 eg));(repeat(first|((refine hn [0,0] ?_ ?_ a8)<;>(first|(simp;done)|(intro a b;have:=tF.fS.fD a b;simp;omega)|fail))|refine a7.drew ?_|refine a7.alloc ?_ _|fail)));first|done|fail):p:=h
def YK(h:p:=by (obtain rfl:k=j am:=m);go_wp2;go_ret2;have a:x y.heap<=x wc.heap:=ci.h.size;exact⟨pc,ku,yD,me,cE,u,dV.h,(R4 bU.h).older a,yE.h.sub bq,yF.h,BE.h⟩):p:=h
def QU(h:p:=by(first|exact J3.h.I cV|(repeat(first|((refine hn [cQ] ?_ ?_ a8)<;>(first|(simp;done)|(intro a b;have:=i7.h.fS.fD a b;simp;omega)|fail))|refine a7.drew ?_|refine a7.alloc ?_ _|fail)));first|done|fail):p:=h
def QO(h:p:=by(first|exact zC.I cV|(repeat(first|((refine hn [0,0] ?_ ?_ a8)<;>(first|(simp;done)|(intro a b;have:=i7.fS.fD a b;simp;omega)|fail))|refine a7.drew ?_|refine a7.alloc ?_ _|fail)));first|done|fail):p:=h
def YH(h:p:=by exact⟨0,G,0,G,0,[],gr _,u,u,u,aj,aS.nil _ _ _ _ _,(aS.nil _ 0 _ 3 1).br,List.Pairwise.nil,λa=>⟨a4,λ⟨b,a,_⟩=>absurd a (Nat.not_lt_zero _)⟩,zo _⟩):p:=h
def XU(h:p:=by go_wp2;go_round;(.exact⟨k+1,m,m,be,λa c d=>by rcases dE a k with b|b;(.exact mz.h a c b);. (obtain rfl:a=k:=m);exact gM.h⟩);simp[intOf];omega):p:=h
def LS(h:p:=by have a:=(Sd (jC z 3) B7 fo).h;simpa only[el,fW,K2,K3,fz,ha,mb,q3]using a):p:=h
def F5(h:p:=by((refine A (f2.I ?_ eJ));(repeat(first|with_reducible refine f2.drew ?_|((with_reducible refine f2.new ?_)<;>(first|(simp;done)|fail))|with_reducible refine f2.alloc ?_ _|fail)));first|done|fail):p:=h
def Rn(h:p:=by go_wp2_with(go_at_call 107;refine ab (gt _ _ _ _) ?_;rintro b c a;obtain⟨rfl,rfl⟩:=q0 _ _ a);go_quiet(fail);go_wp2;go_ret;exact⟨ew (by rw[xz.h];simp),bW.drewN _⟩):p:=h
def w5(h:p:=by(refine A (f2.I ?_ eJ);(repeat(first|with_reducible refine f2.drew ?_|((with_reducible refine f2.new ?_)<;>(first|(simp;done)|fail))|with_reducible refine f2.alloc ?_ _|fail)));first|done|fail):p:=h
def WX(h:p:=by have a:=mz.h;rw[jW (m:j n.ag<=av)]at a;have b:=A (by rw[lJ.h,a];rfl:iu=true);clear a;go_wp2;go_ret;exact⟨cP b.h.symm,yp.h⟩):p:=h
def Zo(h:p:=by have:=Gx n bi bj bO bA s.an (q e4 (j dv) cD) dv aM (f7.h.I (dV.h.aa eb)) (GH.h.I eb) GI s.af k0.h.bA t9.1 t9.2;exact BI):p:=h
def Ls(h:p:=by refine A (dl.I ?_ eJ);exact US):p:=h
def N4(h:p:=by go_enter H1,D7;go_wp2_with(go_at_call 145;refine ab ww.h ?_;rintro b c⟨rfl,a⟩;have b:=A a;clear a);go_ret;exact⟨cP c6.h.symm,b.h⟩):p:=h
def R0(h:p:=by have a:=bI.call (l:=l) (cX:=b4 aE) (ao:=ao) (f:=f) (a6:=dC) Dq (by rw[Dr.h];exact mQ.1) (by rw[Dr.h];exact mQ.2);rw[oa.h]at a;exact a):p:=h
def Vs(h:p:=by rcases(m:cL=0\/cL=1\/cL=2\/cL=3\/cL=4\/cL=5)with rfl|rfl|rfl|rfl|rfl|rfl;all_goals exact Ff cS _ _ bf bf bf bf bf bf):p:=h
def QM(h:p:=by((repeat(first|((refine hn [1,2,3,4] ?_ ?_ a8)<;>(first|(simp;done)|(intro a b;have:=IY.h a b;simp;omega)|fail))|refine a7.drew ?_|refine a7.alloc ?_ _|fail)));first|done|fail):p:=h
def T2(h:p:=by (have e:sA<x wc.heap:=by obtain⟨f,g,a,_,b,_⟩:=c0 SY vO;injection a with c;injection c with d _;rw[d];exact b);have a:=qb.fK.2.2;omega):p:=h
def VJ(h:p:=by go_roundw;(. have a:=z.h;exact⟨k+1,up++[aP],rD,m,be,aB,by simpa only[el,fW,q3]using a⟩);simp[intOf];omega):p:=h
def P0(h:p:=by rw[dz j8]at s3 z5;refine⟨by rw[s3,z5];exact cw.ok,λa _=>?_,λa=>?_,λ_=>?_⟩;(.rw[s3]at a⊢;rw[z5];exact cw.val a);(.rw[s3]at a⊢;exact cw.jr a);.rfl):p:=h
def QK(h:p:=by skip;go_wp2_with(go_at_call 165;refine ab (IX _ f9 cV) ?_;rintro a b⟨rfl,rfl⟩;rw[xs]);go_roundw;(.exact⟨av+1,m,be,f9,lP⟩);simp[intOf];omega):p:=h
def S2(h:p:=by refine b7.aI (bH:=[]) λb a c=>?_;simp[aF,Value.ownBlock]at a;rcases cK.1 c with a|a;(.simp[aF,Value.ownBlock]at a;omega);.have:=cC b a;omega):p:=h
def Sq(h:p:=by have Do:=A (vS:iu=false);go_wp2_with(go_at_call 232;refine ab (mS.h _) ?_;rintro a b⟨rfl,rfl⟩);exact TT):p:=h
def TK(h:p:=by exact((sF.h.f.a9.aa vW.h).trans At (λb c=>bk (sF.h.f.ae.lt b c).1)).trans ro.h (λd a=>bk (by simp at a;subst a;exact sF.h.f.fK))):p:=h
def XC(h:p:=by go_wp2_with(go_at_call 147;refine ab (r3 _ _ _ _ _) ?_;rintro a b⟨rfl,rfl⟩;first|rw[qz]|rw[gc]);go_ret;exact⟨cP gd.h.symm,ol.h⟩):p:=h
def Zk(h:p:=by have fb:=A (show bD=(-1,false)by rw[c6.h,dz];simpa using h1);exact Zc):p:=h
def Tu(h:p:=by exact⟨av+1,y2,m,be,u,by rw[<-sC.h,vT.h,ND (λa=>(Eq.1 a).elim a4 a4)];rfl,m,Tt.aa nF⟩):p:=h
def QY(h:p:=by have a:=f7.h.xf f Dq cQ (by simpa[b4]using kP);have:=er.h.fq;exact⟨m,m,Qd ao (vl cQ kP)⟩):p:=h
def Lz(h:p:=by have a:=ce.xf f si cQ V9;have:=cS.fq;exact⟨m,m,Lv kP⟩):p:=h
def U3(h:p:=by refine((aS.made a0 (x cj.heap) cj _ _ (zo _) fD).sub λb a=>?_).alloc _;rcases eu.1 a with rfl|c;(.simp_all);.grind):p:=h
def Ti(h:p:=by go_roundw;(.exact⟨k+1,fN,m,be,m,(bU.h.I (aj.aa El.h)),bW.h.aa (aj.aa El.h)⟩);simp[intOf];omega):p:=h
def VG(h:p:=by go_wp2_with fail;go_meet;exact⟨_,_,_,u,z.h.1.alloc _,z.h.1.size,a8,Vo (lz z 5) (lz z 4) (lz z 3) (lz z 2) (lz z 1) (lz z 0)⟩):p:=h
def Xb(h:p:=by (try dsimp only);(have a:=(F.refl [cO] hi).setCell (p:=bl cO (f*5+1)) (aN a8) (a1 wt ly iR);exact a.aJ d7 aB)):p:=h
def Iz(h:p:=by have a:=BB (aX y (au #[a1 bi l bj,a1 bO aE bA] 126)) (au #[ah 0,ah 0,q G 0 0] 155);rwa [H3]at a):p:=h
def Xx(h:p:=by have a:=A (a4:f5 l f t k=false);go_wp2;go_roundw;(.exact⟨k+1,m,be,wP.h a.h,kx.h _⟩);simp[intOf];omega):p:=h
def U2(h:p:=by have a:=(ra z fo).h;simpa only[el,fW,fz,ha,mb,q3]using a):p:=h
def Pn(h:p:=by intro c b;rcases cK.1 b with a|a;(.obtain⟨d,_,rfl⟩:=iV.1 a;rfl);.obtain⟨d,_,rfl⟩:=iV.1 a;rfl):p:=h
def Tg(h:p:=by exact⟨k+1,m,be,by rw[KB.h,k0.h,KC.h];rfl,bW.aa (by exact⟨u,u,u,zo _,λ_ _ _=>u⟩)⟩):p:=h
def Xa(h:p:=by (have b:g<x ia.heap:=by rcases cK.1 aL with a|a;(.exact(t0.h.lt g a).2);.have:=ms.h g a;omega);exact b):p:=h
def wD(h:p:=by go_wp2_with(go_at_call 45;refine ab (jA _ _) ?_;rintro a b⟨rfl,rfl⟩;rw[i6]);exact Qz):p:=h
def UZ(h:p:=by exact(a7.I (vj (aP:= .mk 4 0 [.mk 0 0 [],.mk 12 0 []]) LA.h pr.h j3.h (λa aL=>kl)) cV)):p:=h
def Rm(h:p:=by go_wp2_with(go_at_call 107;refine ab (gt _ _ _ _) ?_;rintro a b⟨rfl,rfl⟩;rw[oN]);go_ret;exact⟨u,bW⟩):p:=h
def ZB(h:p:=by (try go_ret);exact pu.h _ hD.h ((bQ.dS ci.h hz.h).trans (NT.h.less a4)) NU):p:=h
def a2k(h:p:=by have:=EG.h;rw[dz qh,h4,x8,hu uh]at this;exact this):p:=h
def LO(h:p:=by(repeat(first|with_reducible exact kw.h|with_reducible refine F.drew ?_|with_reducible refine F.alloc ?_ _|fail));first|done|fail):p:=h
def KE(h:p:=by (obtain rfl:k=j s.am:=m);go_wp2;go_ret;exact⟨fN,m,_,u,ci.h.aa bW.h,bU.h.dF j2⟩):p:=h
def KF(h:p:=by go_roundw;(.exact⟨k+1,fN,m,be,m,bU.h.I iM.h,bW.h.aa iM.h⟩);simp[intOf];omega):p:=h
def T1(h:p:=by rcases cK.1 gQ with a|a;(.exact n1 aP a);.rw[kC]at a;subst a;exact⟨n2,vN,Af⟩):p:=h
def a1n(h:p:=by exact(a7.I (vj (aP:= .mk 12 (a:Int) []) (hT sQ) j3.h pr.h (λb aL=>kl)) cV)):p:=h
def a0q(h:p:=by refine cG ?_;clear fw;go_wp2;go_roundw;(.exact⟨k+1,m,be,bW.h.aa hD.h⟩);simp[intOf];omega):p:=h
def RF(h:p:=by have a:=gd.h;simp only[aI,a7]at a;obtain⟨b,c,d,_,_,e⟩:=a;cases cE with|nil=>rfl|cons f g=>grind):p:=h
def ZJ(h:p:=by go_wp2;go_meet;exact⟨u,⟨_,_,(by rw[<-uK.h]),rp.h⟩,u,u,u,u,u,kw.h,BQ.h,m⟩):p:=h
def Vc(h:p:=by exact(a7.I (vj (aP:= .mk 12 0 []) (hT sQ) j3.h pr.h (λa aL=>kl)) cV)):p:=h
def OD(h:p:=by go_wp2;go_round;(. exact a1P);simp[intOf];omega):p:=h
def T7(h:p:=by subst gQ;go_wp2;go_roundw;(. exact a2R);simp[intOf];omega):p:=h
def Xh(h:p:=by have a:=gd.h;simp only[a7]at a;obtain⟨b,c,d,_,_,e⟩:=a;cases bx with|nil=>rfl|cons f g=>grind):p:=h
def Oy(h:p:=by obtain⟨⟨f,c,a⟩,_⟩:=cS;obtain⟨d,e,rfl,_⟩:=bB a;exact⟨b,iC,d,e,qK,eX,c,a⟩):p:=h
def Ek(h:p:=by exact⟨0,[],gr _,u,a8,aS.made a0 (x wc.heap) wc _ _ (zo _) cC.h,aj.alloc _⟩):p:=h
def TC(h:p:=by refine(fX.a9 b7.a9 λa a=>aN (gO _ ?_)).sub λa a=>aN ?_;(.grind);.grind):p:=h
def MJ(h:p:=by rcases cK.1 aL with b7|b7;(.exact bk Sc);.exact aN b7):p:=h
def XJ(h:p:=by have:=(c6.h.ae 0 _ u).br;rw[jW (zo _)]at this;exact this.sub a8):p:=h
def WV(h:p:=by go_roundw;(.exact⟨av+1,m,be,by rw[Mt.h];rfl,hh.h.aa e5.h⟩);simp[intOf];omega):p:=h
def RS(h:p:=by exact⟨0,gr _,u,by simpa using aS.made a0 (x y.heap) y _ _ (zo _) cC,aj.alloc _⟩):p:=h
def a2t(h:p:=by simp only[dh,kF,h4,hu nL,y6]):p:=h
def R1(h:p:=by obtain⟨c,c,b,_⟩:=b7.pP;exact⟨a,dp,xv b,gQ.a9 (F.fP aM k _ _ _) a4⟩):p:=h
def XE(h:p:=by clear uH yv;go_wp2;go_roundw;(. exact N3);simp[intOf];omega):p:=h
def a2K(h:p:=by clear fb;go_wp2;go_region;all_goals go_wp2;go_ret2;exact eL.mk' AZ.h (ci.h.aa lP.h).drew):p:=h
def a29(h:p:=by simpa only[el,fW,fz,ha,mb]using b7):p:=h
def Eg(h:p:=by exact⟨0,[],gr _,u,a8,aS.made a0 (x y.heap) y _ _ (zo _) cC,aj.alloc _⟩):p:=h
def ZN(h:p:=by (try go_ret);exact pu.h _ (nd.h.aa ro.h) (bQ.dS ro.h hz.h) On):p:=h
def Sg(h:p:=by rcases cK.1 i6 with a|a;(.exact(fo.h.b c a).imp (hF _) id);grind):p:=h
def To(h:p:=by go_wp2;go_roundw;(.exact⟨k+1,fN,m,be,m,bU.h,bW.h⟩);simp[intOf];omega):p:=h
def UW(h:p:=by intro b c d a;exact k b c (b7.grow eb d a) (b7.grown (bH:=bH) a).1 (b7.grown (bH:=bH) a).2):p:=h
def T3(h:p:=by exact⟨k+1,dT,RN++[s],_,m,be,Ks.1.more' aj a4,y0,aB,Kr⟩):p:=h
def Ul(h:p:=by (obtain rfl:av=j b.ap:=m);go_wp2;go_ret;exact⟨false,u,ci.h.aa bW.h⟩):p:=h
def K7(h:p:=by go_roundw;(.exact⟨k+1,m,be,by rw[E2.h];exact ks.h⟩);simp[intOf];omega):p:=h
def TB(h:p:=by rcases cK.1 aL with a|a;(.exact(b7.dJ g a).imp a4 id);.exact aN a):p:=h
def TJ(h:p:=by rw[mY,show j (dT++[s])=j dT+1 by simp];exact pe.h.ae.a9 ro.h a4):p:=h
def XT(h:p:=by go_roundw;(.exact⟨k+1,m,be,by rw[Na.h];exact G6.h⟩);simp[intOf];omega):p:=h
def a2G(h:p:=by (obtain rfl:k=j b.b3:=m);go_wp2;(try go_ret);exact GL.h (Nb mz.h)):p:=h
def a1C(h:p:=by have a:=bU.h.br;rw[jW (zo _),<-qA]at a;rw[k4];exact a):p:=h
def a18(h:p:=by obtain⟨c,d,a,b,e⟩:=a7.cq b7;rw[fy]at a b;exact⟨c,d,a,b,e⟩):p:=h
def GF(h:p:=by have a:=mz.h;rw[jW (zo _)]at a;rw[BH.h,dz a,qA]):p:=h
def H9(h:p:=by go_wp2;go_ret;exact⟨cP (by rw[<-mc.h,jW m]),u⟩):p:=h
def T9(h:p:=by go_roundw;(. exact a2R);simp[intOf];omega):p:=h
def TV(h:p:=by first|exact rp.h.I (ol.aa aj.drew)|exact rp.h.I (ol.aa (aj.drew.alloc _))):p:=h
def Ly(h:p:=by have a:=ce.sg f si;simp only[b4,k7,jf.AP]at a;exact a):p:=h
def X5(h:p:=by rw[uB];show j (r.aD.ap.take sZ++cx 15 v::r.aD.ap.drop sZ)=_;simp;omega):p:=h
def a1T(h:p:=by exact⟨k+1,m,be,by rw[fE _ _ eX,PK,mc.h,oN];rfl⟩):p:=h
def M6(h:p:=by rw[hO]at aL;rcases eu.1 aL with rfl|a;(.omega);.have:=cC.h g a;omega):p:=h
def a2E(h:p:=by go_wp2;go_roundw;(.exact⟨k+1,m,be,gM.h,gp.h _⟩);simp[intOf];omega):p:=h
def ZO(h:p:=by cases a:bS 0 gb.aY (j ep.b3 - 1);(.simp only[a]at uL;simp at uL);.rfl):p:=h
def WW(h:p:=by go_ret;exact⟨cP (by rw[lJ.h,pu.h a8];rfl),yp.h.aa e5.h⟩):p:=h
def a2A(h:p:=by rw[k7,Fm,qo,qo,List.set_set];rfl):p:=h
def a20(h:p:=by rcases Int.lt_or_eq_of_le hd with a|a;exact a;subst a;rw[er.h.ez]at j8;simp at j8):p:=h
def a2d(h:p:=by exact⟨0,_,m,u,by rw[List.replicate_zero,pN];exact c6,kX⟩):p:=h
def Za(h:p:=by exact⟨k+1,cU,H cU,m,be,u,a4,λ_=>u,AZ.h,il.h⟩):p:=h
def a1R(h:p:=by simp only[e9,oH,fF,hG]at qO;grind[ti,s0]):p:=h
def Kb(h:p:=by rw[hO]at aL;rcases eu.1 aL with rfl|a;(.omega);.have:=cC g a;omega):p:=h
def a2f(h:p:=by rcases eu.1 aL with rfl|a;(.simp;omega);.have:=cC.h g a;simp;omega):p:=h
def a2p(h:p:=by go_roundw;(.exact⟨cL+1,ps,m,be,m,fo.h⟩);simp[intOf];omega):p:=h
def M5(h:p:=by rcases xB bw with a|a;(.grind);.rw[a];simpa using kU.length):p:=h
def Eh(h:p:=by (obtain rfl:k=j l:=m);go_wp2;go_ret;exact⟨fN,m,_,u,bW,bU⟩):p:=h
def a2c(h:p:=by rw[Km.h];exact hs _ (by rw[Ac];exact L0)):p:=h
def Y1(h:p:=by (try dsimp only);(have a:=iM.h;exact⟨a.a3 e0,a.a3 dD,a.a3 km,a.a3 yA⟩)):p:=h
def Y2(h:p:=by (try dsimp only);(have a:=hD.h;exact⟨a.a3 e0,a.a3 dD,a.a3 km,a.a3 yA⟩)):p:=h
def Mf(h:p:=by go_wp2_with fail;go_meet;exact⟨u,aj.alloc _,a8,fG,fG⟩):p:=h
def YA(h:p:=by refine Yz h1 (λa b=>?_) ?_ (λa b=>?_);(.grind);(.grind);.grind):p:=h
def a1O(h:p:=by exact⟨0,gr _,u,aj.alloc _,aS.made a0 _ y _ _ (zo _) cC⟩):p:=h
def a22(h:p:=by rw[ob M0]at rE;exact b7.dY cL k cQ bH GQ NB kP rE g tr Dl):p:=h
def V5(h:p:=by rw[sR];exact AU.h.set (aP:= .mk 6 1 [bH,.mk 9 (f:Int) dC]) a8 LD.h):p:=h
def a26(h:p:=by have:=c6.ae.br;rw[jW (zo _)]at this;exact this):p:=h
def xN(h:p:=by go_wp2_with fail;go_meet;exact⟨u,aj.alloc _,a8,BB y _⟩):p:=h
def FO(h:p:=by have a:=Bh.br;rw[<-qo]at a;rw[kn,gM.h];exact a):p:=h
def a2x(h:p:=by rw[ks.h,gL.h];exact a0T):p:=h
def Pk(h:p:=by rintro(a|a|a);(.exact bk (aN a));(.exact aN a);.exact bk (bk a)):p:=h
def a23(h:p:=by subst GR;rw[vq Bu]at kP;cases kP;exact(LY.lt g tr).2):p:=h
def a2l(h:p:=by rw[c5];have a:=Az.h;rw[ll]at a;simp[du]at a;omega):p:=h
def ZT(h:p:=by obtain⟨_,_,_,_,_,_,_,a⟩:=wo;have b:x yJ.heap<=hS:=dx.fK a;omega):p:=h
def a2B(h:p:=by exact(((a0F.h).then pA.h).trans jG.h a4).trans wu a4):p:=h
def a2M(h:p:=by rw[ml.h,dz ⟨(he.1 nH).symm,(he.1 pk).symm⟩]):p:=h
def a27(h:p:=by go_enter func88,ntmps88;go_wp2;go_ret;exact⟨u,aj.alloc _⟩):p:=h
def IB(h:p:=by exact⟨0,xh,[],gr _,u,gz.nil _ _,vc,Dd,m,sh⟩):p:=h
def a25(h:p:=by go_ret;exact⟨cP (by rw[jk.h,Ma];rfl),bW.h.aa yp.h⟩):p:=h
def a2q(h:p:=by have a:=fo.h;exact⟨k+1,up,rD,m,be,a4,a4⟩):p:=h
def a1k(h:p:=by simpa only[el,fW,q3]using b7):p:=h
def a2C(h:p:=by rcases eu.1 aL with rfl|a;(.exact b7.j4);.exact b7.lt g a):p:=h
def a1Q(h:p:=by match dv with|[]=>simp|[a]=>exact bk (aN a4)|a::b::c=>simp):p:=h
def a1e(h:p:=by rcases kb.2 with⟨a,_⟩|⟨b,b,b,a,_⟩;(.simp at a);.grind):p:=h
def a2e(h:p:=by go_wp2;go_ret;exact⟨fN,m,_,u,ci.h.aa bW.h,bU.h⟩):p:=h
def L1(h:p:=by rcases hR.h.dJ _ bw with a|a;(.exact(m1.h hS q1.1).2 a);.omega):p:=h
def a2v(h:p:=by rw[uv];exact(F.refl [x bP.heap] jD).setCell (aN a8) _):p:=h
def a2L(h:p:=by exact⟨0,G,gr _,u,aj,a1G.h,aN ⟨u,u,u⟩⟩):p:=h
def mh(h:p:=by go_wp2_with fail;go_meet;exact⟨u,aj.alloc _,BB y _⟩):p:=h
def a21(h:p:=by go_wp2_with fail;go_meet;exact⟨u,aj.alloc _,a8,fG⟩):p:=h
def a24(h:p:=by rcases cK.1 aL with a|a;(.exact(b7.lt g a).2);.grind):p:=h
def DN(h:p:=by rcases eu.1 aL with rfl|a;(.omega);.have:=cC g a;omega):p:=h
def qa(h:p:=by go_wp2_with fail;go_meet;exact⟨u,u,u,mR.mk' _ _ _ _ _ _ _⟩):p:=h
def Wu(h:p:=by rw[gL.h];exact a0T):p:=h
def a2J(h:p:=by go_wp2_with fail;go_meet;exact⟨u,u,u,u,dq.mk' _ _ _ _ _⟩):p:=h
def a2N(h:p:=by obtain⟨a,b,rfl⟩:=md kb;have:=b7.pv.hq a b;omega):p:=h
def zk(h:p:=by go_enter func158,ntmps158;go_wp2;go_ret;exact⟨u,u⟩):p:=h
def TF(h:p:=by go_enter func147,ntmps147;go_wp2;go_ret;exact⟨u,u⟩):p:=h
def Dv(h:p:=by go_enter func154,ntmps154;go_wp2;go_ret;exact⟨u,u⟩):p:=h
def E3(h:p:=by go_enter func232,ntmps232;go_wp2;go_ret;exact⟨u,u⟩):p:=h
def a2i(h:p:=by intro a b;exact(pe.h.dJ a b).imp id (λa=>by simp at a;omega)):p:=h
def a2m(h:p:=by exact⟨k+1,fN,m,be,m,bU.h,bW.h.aa aj⟩):p:=h
def a2r(h:p:=by go_wp2;go_ret;exact⟨cP (by rw[jk.h,po,kb];rfl),wh.h⟩):p:=h
def a1B(h:p:=by simp[results,Tryz.results252,go_sem,dH,eo,ef,bn.af,bn.an,bn.a6]):p:=h
def a1V(h:p:=by simp[results,Tryz.results229,go_sem,dH,eo,ef,bn.af,bn.an,bn.a6]):p:=h
def a2a(h:p:=by rw[gL.h]at b7;exact(b7.a9 wu a4).sub (bv:=a0) a4):p:=h
def a2w(h:p:=by have a:=(qx.ae.a9 wI a4).br;rw[oo.h]at a;exact a):p:=h
def a2D(h:p:=by go_enter func205,ntmps205;go_wp2;go_ret;exact yt.nil aj):p:=h
def a1W(h:p:=by exact⟨m,fX,qO,by rw[ex];simp,by rw[ex];simp,a4⟩):p:=h
def TD(h:p:=by go_enter func45,ntmps45;go_wp2;go_ret;exact⟨u,u⟩):p:=h
def a2s(h:p:=by rw[<-IM.h,NO.h];(try dsimp only);rw[ND bq]):p:=h
def a2n(h:p:=by rcases cK.1 gQ with a|a;(.exact im.h aP a);.grind):p:=h
def a2O(h:p:=by go_wp2_with fail;go_meet;exact⟨u,u,u,dq.mk' _ _ _ _ _⟩):p:=h
def a2o(h:p:=by (try dsimp only);(have a:=oq.h;exact⟨a.a3 e0,a.a3 dD⟩)):p:=h
def Lq(h:p:=by (try dsimp only);(have a:=hr.h;exact⟨a.a3 e0,a.a3 dD⟩)):p:=h
def a2H(h:p:=by exact⟨0,G,0,gr _,u,u,aj,aS.nil _ _ _ _ _⟩):p:=h
def a1S(h:p:=by rw[Go.Proofs.YtfekcilkpafpjaaGreat.fc]at db;cases db;exact b7):p:=h
def fr(h:p:=by go_wp2_with fail;go_meet;exact⟨u,u,dq.mk' _ _ _ _ _⟩):p:=h
def Jr(h:p:=by exact aN (hs _ (kT.2 ⟨p,sp,aL⟩))):p:=h
def FN(h:p:=by exact((kx.h.then sY.h).aa dV.h).trans mQ a4):p:=h
def a1N(h:p:=by subst ty;exact rE.wpOp h1 FV ⟨⟨FV.1,λ_=>FV.2⟩,sF⟩):p:=h
def a1A(h:p:=by have:=hz g (gO _ aL);exact a1L):p:=h
def a1U(h:p:=by exact xm S9 a4 A7 a4 a8 a4):p:=h
def a2g(h:p:=by rw[sG];exact(F.refl [p] jD).setCell (aN a8) _):p:=h
def a2j(h:p:=by exact⟨0,[],gr _,u,u,by simp[du],cE.h⟩):p:=h
def a2z(h:p:=by rw[da];exact(F.refl [cO] hi).setCell (aN a8) _):p:=h
def a2b(h:p:=by rcases eu.1 aL with rfl|a;(.simp_all);.grind):p:=h
def a2h(h:p:=by rw[show j (dT++[s])=j dT+1 by simp];exact As.h):p:=h
def GC(h:p:=by exact⟨0,_,_,gr _,u,u,lP.h,rP.h,u⟩):p:=h
def Hm(h:p:=by rcases dE av k with a|a;(.exact mc av a);.grind):p:=h
def a2F(h:p:=by rcases b7.2 with⟨b,_⟩|⟨_,a⟩;(.grind);.exact a):p:=h
def a1m(h:p:=by first|exact bW.h|exact bW.h.drewN _|exact bW.h.drew):p:=h
def EI(h:p:=by exact⟨0,[],_,_,gr _,u,u,a8,cE.h⟩):p:=h
def a28(h:p:=by rwa [q5,<-List.replicate_succ']at this):p:=h
def Ka(h:p:=by (try dsimp only);exact⟨e0,dD,hy,dH,eo,ef,pa,sv,mZ⟩):p:=h
def a1u(h:p:=by (try dsimp only);exact⟨f8,fQ,fR,g6,gJ,A0,A1,A2,A3⟩):p:=h
def LE(h:p:=by rw[<-F2.h,sR];exact EX er.h F4.h F3.h):p:=h
def X1(h:p:=by go_wp2_with fail;go_meet;exact⟨u,om.mk' _ _ _⟩):p:=h
def a3l(h:p:=by (try dsimp only);all_goals(first|assumption|exact e2)):p:=h
def a0D(h:p:=by (try dsimp only);all_goals(first|assumption|exact fw)):p:=h
def G4(h:p:=by go_wp2;go_ret;exact⟨cP gd.h.symm,ol.h⟩):p:=h
def a1v(h:p:=by rw[<-lA];exact fp.yes db ⟨_,_,_,_,_,_,_,mu⟩ ce):p:=h
def a1q(h:p:=by exact⟨u,u,u,zo _,λ_ _ _=>u⟩):p:=h
def TN(h:p:=by cases a:s.am with|nil=>simp_all|cons b c=>simp):p:=h
def a1x(h:p:=by (try dsimp only);exact⟨e0,dD,ef,sH,sI,sJ,mt⟩):p:=h
def XS(h:p:=by cases cs with|nil=>grind|cons a b=>exact b7.elim):p:=h
def a1H(h:p:=by rw[cC.h]at aL;have:=gF.1 aL;omega):p:=h
def a15(h:p:=by simp[results,Tryz.results248,go_sem,dH,eo,ef]):p:=h
def a1a(h:p:=by simp[results,Tryz.results225,go_sem,dH,eo,ef]):p:=h
def a1o(h:p:=by simp[results,Tryz.results183,go_sem,d4,d7,eI]):p:=h
def a3n(h:p:=by simp[results,Tryz.results148,go_sem,iP,hw,jw]):p:=h
def a13(h:p:=by(first|exact aj|exact aj.drew|exact aj.drewN _);first|done|fail):p:=h
def ZI(h:p:=by obtain⟨a,rfl⟩:=wk;exact(aj.drew).drewN a):p:=h
def Bn(h:p:=by go_ret;exact⟨cP gd.h.symm,ol.h⟩):p:=h
def a1s(h:p:=by (try dsimp only);exact⟨e0,dD,f8,fR,g6,gJ⟩):p:=h
def a16(h:p:=by rw[gL.h];exact hF _ aL):p:=h
def a10(h:p:=by rw[show(4:Int).toNat=4 from u,n7];omega):p:=h
def a1i(h:p:=by simp at bw;subst bw;exact L0):p:=h
def a0P(h:p:=by have:=n5.h;have:=sB.h;dsimp only;omega):p:=h
def a1w(h:p:=by have:=(bU.ae.lt _ bw).1;simp at this;omega):p:=h
def a1z(h:p:=by have:=Bg.h;rw[lS.h]at this;exact this):p:=h
def Xf(h:p:=by have:=ms.h g aL;exact FR):p:=h
def a1g(h:p:=by simp[results,Tryz.results65,go_sem,iP,hw]):p:=h
def a3e(h:p:=by simp[results,Tryz.results32,go_sem,iP,hw]):p:=h
def BJ(h:p:=by go_wp2;exact Qz):p:=h
def a14(h:p:=by (try dsimp only);exact⟨f8,fQ,fR,g6,gJ⟩):p:=h
def TI(h:p:=by exact⟨0,gr _,u,a8,aj⟩):p:=h
def Ef(h:p:=by cases aE with|nil=>grind|cons a b=>grind):p:=h
def WH(h:p:=by have a:=Az.h;rw[vT.h]at a;omega):p:=h
def a1j(h:p:=by have:=k0.h _ bw;simp at this;try omega):p:=h
def a3j(h:p:=by simp[Go.Proofs.YtfekcilkpafpjaaGreat.jx]):p:=h
def yO(h:p:=by simp only[jL];omega):p:=h
def RA(h:p:=by rw[ND m,ND m]):p:=h
def a2y(h:p:=by (try dsimp only);all_goals exact trivial):p:=h
def a1F(h:p:=by match dv,fX with|[a],_=>exact⟨a,u⟩):p:=h
def RR(h:p:=by rwa [h4]at this):p:=h
def yq(h:p:=by go_wp2_with fail;go_meet;grind[dq.mk']):p:=h
def a1l(h:p:=by (try dsimp only);exact⟨jv,hQ,cz,ut⟩):p:=h
def a1f(h:p:=by have:=lS g aL;exact FR):p:=h
def a0Z(h:p:=by have:=ce.fq;rw[o5]at this;omega):p:=h
def Uz(h:p:=by rcases y7.h with a|a<;>rw[a]<;>rfl):p:=h
def a3p(h:p:=by rw[uE l cs Xo.h];exact eX):p:=h
def a1c(h:p:=by have:=TO.h _ bw;simp at this;omega):p:=h
def a1p(h:p:=by first|exact z.h.c|exact z.h.c.d9):p:=h
def a1d(h:p:=by simp at ee;subst ee;exact yX aP):p:=h
def a1y(h:p:=by (try dsimp only);exact⟨hy,ph,mZ⟩):p:=h
def TY(h:p:=by rw[jK b7,c9]):p:=h
def Uv(h:p:=by have:=(qf.h.f.ae.lt _ bw).2;omega):p:=h
def Qo(h:p:=by simp[aF,Value.ownBlock]at aL;omega):p:=h
def a17(h:p:=by simp[aF,Value.ownBlock]at bw;omega):p:=h
def Fz(h:p:=by exact⟨b7.1,b7.2.1,ce.trans b7.2.2⟩):p:=h
def a1b(h:p:=by have:=ir.h g aL;(try simp);omega):p:=h
def G1(h:p:=by simp only[gv];omega):p:=h
def xg(h:p:=by rw[ka y b 0 _ _ _ b7];rfl):p:=h
def zp(h:p:=by rw[ka y b 1 _ _ _ b7];rfl):p:=h
def L8(h:p:=by rw[ka y b 2 _ _ _ b7];rfl):p:=h
def SZ(h:p:=by rw[ka y b 3 _ _ _ b7];rfl):p:=h
def sl(h:p:=by exact a7.nil _ _ _ _ _ m):p:=h
def Xc(h:p:=by simp at bw;subst bw;exact aN m2):p:=h
def Xd(h:p:=by rw[qp];exact BB bP _):p:=h
def XQ(h:p:=by rw[qq];exact BB h9 _):p:=h
def tX(h:p:=by exact fl _ m):p:=h
def a30(h:p:=by rw[da];exact BB wr _):p:=h
def a12(h:p:=by have:=k0 _ bw;simp at this;omega):p:=h
def a3f(h:p:=by rw[n4];exact LC):p:=h
def Up(h:p:=by have:=fD g aL;have:=eb.size;omega):p:=h
def a11(h:p:=by rw[gL.h];exact Fx):p:=h
def w1(h:p:=by exact⟨0,gr _,u,aj⟩):p:=h
def YV(h:p:=by rw[da];exact BB bP _):p:=h
def x4(h:p:=by rw[cS,qR]at fX;exact fX.1.elim):p:=h
def Mj(h:p:=by exact gO _ aL):p:=h
def a19(h:p:=by have:=ir g aL;(try simp);omega):p:=h
def a2u(h:p:=by simp[ek.ui,aF,Value.ownBlock]):p:=h
def a3m(h:p:=by rw[kn,gM.h];rfl):p:=h
def a1h(h:p:=by rw[<-lA];exact fp.no db eb ce):p:=h
def z0(h:p:=by rwa [H3]at this):p:=h
def Al(h:p:=by rwa [xX]at this):p:=h
def a34(h:p:=by have:=cC.h g aL;simp;omega):p:=h
def a3o(h:p:=by subst b7;exact⟨u,eb,ce⟩):p:=h
def a32(h:p:=by first|exact nF.h|exact aj):p:=h
def a2Z(h:p:=by first|exact it z|exact Sh z):p:=h
def a3d(h:p:=by cases db;exact⟨_,Gf,u⟩):p:=h
def a3a(h:p:=by have:=im.fD g aL;simp;omega):p:=h
def a3g(h:p:=by cases db;exact⟨_,cw,u⟩):p:=h
def a38(h:p:=by simp[aF,Value.ownBlock,db]):p:=h
def a3c(h:p:=by rw[n4];exact aj.alloc _):p:=h
def MA(h:p:=by exact BB eA _):p:=h
def Qf(h:p:=by exact BB cj _):p:=h
def a2T(h:p:=by have:=cC g aL;simp;omega):p:=h
def a33(h:p:=by simp only[maxLen];omega):p:=h
def a2W(h:p:=by rw[da];exact aj.alloc _):p:=h
def a2I(h:p:=by simp[aF,Value.ownBlock]):p:=h
def a37(h:p:=by (try dsimp only);go_keep):p:=h
def a36(h:p:=by have:=ir.h g aL;omega):p:=h
def a31(h:p:=by first|omega|(simp;omega)):p:=h
def a3b(h:p:=by(simp[Act.eval,Act.put]);first|done|fail):p:=h
def a2P(h:p:=by have:=cC.h g aL;omega):p:=h
def a35(h:p:=by have:=fh.1;simp;omega):p:=h
def DF(h:p:=by have:=cC.h g b7;omega):p:=h
def zv(h:p:=by exact bk m):p:=h
def a2Y(h:p:=by have:=cH.size;omega):p:=h
def a2V(h:p:=by have:=cC g aL;omega):p:=h
def a2X(h:p:=by simp at aL⊢;omega):p:=h
def a2U(h:p:=by have:=cb.size;omega):p:=h
def fi(h:p:=by simp[intOf];omega):p:=h
def a0B(h:p:=by refine ba 9 λp e=>?_;refine W8 u _ _ _ u (x bP.heap::aR (x aA.heap)) (x aA.heap) 47 (aO #[C B 0,C B 0,C B 0,q G 0 0,q G 0 0]) 5 72 sy lk u bf (q (aZ cO 0) k eq) _ u ((nJ.sq k a4).I bc) cO iC (n -(k+1)) (eq -(k+1)) ((b.ap.map dR).drop (k+1)) C3 (by first|exact a0A|(show Value.slice _ _ _=_;rw[a0x.h])) FM (a0y.map λA D o=>o.I bc) (λr s t=>F.aJ (cR:=[]) (y:=gN) bc (a0z r s t) a8) (by grind[mF,List.mem_of_mem_drop]) a4 a4 FR (λE z=>by rcases eu.1 z with rfl|a;(. exact FR);.have:=gF.1 a;exact FR) ?_;intro J c d f;obtain⟨g,i,a⟩:=d.cq;(have l:j ((b.ap.map dR).take k++(b.ap.map dR).drop (k+1))=n - 1:=FM);rw[l]at a;subst a;obtain⟨a,r⟩:=aq (show F [cO] gN c from(F.ca bc).then (f.a9.sub (λo bw=>XL))) d;have o:=a.size;obtain⟨o,s⟩:=aq ((a.block (x bP.heap) m a4).trans nb.box) ((a.block (x y.heap+1) m a4).trans nb.qv);obtain⟨⟨t,z⟩,A,D⟩:=b8 o;clear d f l;refine aV e a4 λd=>?_;clear e p e2;refine a2 10 96 ?_;refine ba 11 λf e=>?_;go_simp;refine aV e a4 λl=>?_;clear e f d;refine cG ?_;clear l;obtain⟨l,e⟩:=bX (bZ c ⟨x bP.heap,0,G⟩ (q g (n - 1) i));obtain⟨p,f⟩:=aq (show l.heap[x bP.heap]?=H (au #[q g (n - 1) i,C B b.aY] 38 (0,0))from by rw[e];exact fJ o) (show F [x bP.heap] c l from by rw[e];exact(F.refl [x bP.heap] c).setCell (aN a8) _);rw[<-e];clear e t z A D;obtain⟨⟨u0,u1⟩,_⟩:=b8 p;obtain⟨⟨iP,hw⟩,c,c⟩:=b8 ((f.block (x y.heap+1) m a4).trans s);go_wp2;all_goals have c:=WA b.ap k;refine tM (v:= .agg #[.slice g (n - 1) i,.int .i64 b.aY]) a1I u (qw.fin (aA:=aA) (aP:=bP.heap.size) (hL:=FJ) (eG:=b.ap.take k++b.ap.drop (k+1)) FM ((nb.sX.trans a a4).trans f a4) ((Bf.a9 a a4).a9 f a4) gc j2 m m ?_);have d:=(r.a9 f a4).br;rw[<-Ft,<-Fu,<-fz]at d;exact d):p:=h
def a0H(h:p:=by rintro M z⟨a,N,d,e,rfl,b,k,f,_,O,c⟩;obtain⟨D,E⟩:=aq (b:bI l (b4 aE) dU a dk) k;have P:=f.size;obtain⟨n,o⟩:=aq (sT.h.call f9.h f m2 m) (c.sub a4:a7 (x cj.heap::aR (x y.heap+2)) z (c3 a.a6) (a1 d a.a6 e));obtain⟨_,_,⟨Q,R,S⟩,⟨T,U,V⟩,_⟩:=n.h.cells;obtain⟨g,p⟩:=aq (E.h.set (cL:=cj.heap.size) m (C B a.af) (C B a.an) (a1 d a.a6 e)) (n.h.set a8 o.h);clear k f c b km jw;have W:=p.h.lt;have X:=g.h.size;have q:=A (o.h.oY (cL:=cj.heap.size) a8 (C B a.af) (C B a.an) (a1 d a.a6 e));by_cases li:d6 a<=30;(. (have c:¬lE a<0:=LH);go_wp2_with fail;refine ab (pI (a0:=cj.heap.size::List.range (y.heap.size+2)) a _ _ ⟨_,_,u,q.h⟩) ?_;rintro h s⟨rfl,b⟩;obtain⟨c,t⟩:=aq (g.h.I b) (p.h.I b);obtain⟨h,i,⟨H,H,H⟩,_,r⟩:=t.h.cells;have t:=A (r.tail:a7 (aR (x y.heap+2)) s (c3 a.a6) (a1 h a.a6 i));obtain⟨⟨d4,d7,eI⟩,s,s,s⟩:=c.h.h;have s:=A (⟨D.h,li⟩:bI l (b4 aE) dU a dk/\d6 a<=30);clear b r;go_wp2;refine tM (v:= .agg #[.int .i64 a.af,.int .i64 a.an,a1 h a.a6 i]) a1M u (c.h.post t.h s.h m));.have Y:lE a<0:=xw li;go_wp2_with fail;refine ab (pI (a0:=cj.heap.size::List.range (y.heap.size+2)) a _ _ ⟨_,_,u,q.h⟩) ?_;rintro Z a2⟨rfl,b⟩;have c:=A (g.h.I b);obtain⟨H,I⟩:=c.h.cells;have a3:=c.h.size;clear b;go_wp2_with fail;refine ab (ry er.h f7.h _ dU dk 12 c.h bc (c.h.ip kt.h) m m (rz.h dU) m m a4 F8) ?_;rintro a5 J⟨b,a6,r,s,rfl,h,i,K,_,L,t⟩;rw[show(12:Int).toNat=12 from u,yi]at L;obtain⟨a,c,d⟩:=bb i (t.sub (eH m):a7 (aR (x y.heap+2)) J (c3 b.a6) (a1 r b.a6 s)) (⟨h.1,h.2 ql.h⟩:bI l (b4 aE) dU b dk/\d6 b<=30);obtain⟨⟨d4,d7,eI⟩,e,e,e⟩:=i.h;clear i K t h H I;go_wp2;refine tM (v:= .agg #[.int .i64 b.af,.int .i64 b.an,a1 r b.a6 s]) a1M u (a.h.post c.h d.h m)):p:=h
def a0K(h:p:=by refine aV cw bq λd=>?_;clear cw di fw;refine ba 5 λe b=>?_;refine jc u _ _ _ u (dm::e6::bM::k1::aR (x wc.heap)) (x wc.heap) 47 (aO #[ah 0,ah 0,ah 0,q G 0 0,q G 0 0]) 5 72 sy lk u bf (q Kt mr Ku) _ (pi.ae.I hg) mr tZ _ (dR nv) (kd _) (ih.enc ⟨mq Ec.a λa c=>aN (ms a c),mq Ec.k λa c=>aN (ms a c)⟩) (λa c=>by have:=pi.q2 a c;omega) (by have:=pi.a9.size;omega) m m u u u ?_;intro a a a a;obtain⟨c,_⟩:=pi.lX hg a;obtain⟨⟨f,f⟩,f,f⟩:=b8 c;have f:=A (pi.push hg nv a);clear a c;simp only[vL,jL,kH];refine aV b bq λc=>?_;clear b e d;refine a2 6 30 ?_;refine ba 7 λb a=>?_;go_simp;refine aV a bq λd=>?_;clear a b c;refine cG ?_;clear d;go_wp2;go_roundw;(.exact⟨k+1,dT++fm RN++[nv],[],_,m,be,f.1.more' aj a4,y0,a4,a8⟩);simp[intOf];omega):p:=h
def a0J(h:p:=by have gJ:=hk.a9.aJ gJ k5.h;clear hk;refine aV cw (by(try dsimp only);exact⟨f8,fQ,fR,g6,gJ⟩) λb=>?_;clear cw di fw;refine a2 18 37 ?_;refine ba 19 λc a=>?_;go_simp;refine aV a a07 λd=>?_;clear a c b;refine cG ?_;clear d;go_wp2;go_roundw;(.exact⟨av+1,wL,fu,m,be,by rw[sx.h,fz,fz];exact yN.h⟩);simp[intOf];omega):p:=h
def VL(h:p:=by have a:=z.h.c.mW;(try simp only[World.drew]at a);obtain⟨⟨b,b⟩,b,b⟩:=b8 a;refine ba 11 λa b=>?_;go_simp;(first|(have a:=Sf z fo cC.h m (q pm (j fx.ap) pn) (C B fx.aY);refine lW b a.h.c.d9 λc=>?_)|(have a:=iL B6 [q pm (j fx.ap) pn,C B fx.aY] 38;refine lW b a.h.c.d9 λc=>?_));refine cG ?_;go_wp2_with fail;go_meet;have b:=lV (jC (jC a 2) 0) (kW:=[(dZ fx.ap,.slice pm fx.ap.length pn)]) a8;exact⟨_,fx,pm,pn,u,mu,rr,(rb b gW).h⟩):p:=h
def a0O(h:p:=by refine ba 7 λdi cw=>?_;exact a0S):p:=h
def a0I(h:p:=by exact⟨(mq O6 λa b=>aN (hz a b)).I BY,(mq GO λa b=>aN (ft (hz a b) GN)).I uQ,u,mq BZ λa b=>aN (ft (hz a b) (cA GN yd)),u,bu⟩):p:=h
def a0G(h:p:=by clear mw eb we rA F6 F7;go_wp2;refine tM (v:= .agg #[.int .i64 aP.af,.int .i64 aP.an,.slice w8 aP.a6.length w9]) a1M u (F9.h.post Fa.h Fb.h m)):p:=h
def a0M(h:p:=by go_wp2;(try go_ret);exact pu.h _ (O1.h.aa jG.h) (O2.h.trans (bQ.dS jG.h (by exactλa b=>ft (hz.h a b) (m9.h.aa pA.h).size))) On):p:=h
def SF(h:p:=by clear cw di fw;refine cG ?_;clear e2;go_wp2;go_roundw;(.refine⟨av+1,hQ,ey,m,be,?_⟩;rw[sx.h,mY,mY];exact c6.sw e5 pe 1);simp[intOf];omega):p:=h
def US(h:p:=by((repeat(first|with_reducible refine dl.drew ?_|((with_reducible refine dl.zeroAt _ ?_)<;>(first|(simp;done)|fail))|with_reducible refine dl.alloc ?_ _|fail)));first|done|fail):p:=h
def ZD(h:p:=by (try dsimp only);exact⟨e5.h.a3 hy,e5.h.a3 mt,e5.h.a3 BM,e5.h.a3 f8,e5.h.a3 fQ,e5.h.a3 fR,e5.h.a3 g6,e5.h.a3 gJ⟩):p:=h
def Tb(h:p:=by go_roundw;(.exact⟨k+1,fN++[aP],m,be,aB,ko Ei.ae,Ei.bm bU (bW.aa aj)⟩);simp[intOf];omega):p:=h
def TW(h:p:=by refine ng cw bu ?_;refine pD ?_;go_wp2_with fail;go_meet;exact⟨_,fx,pm,pn,u,mu,rr,(rb (jC z 3) gW).h⟩):p:=h
def Qr(h:p:=by exact⟨0,hf,[],gr _,u,gz.nil _ _,vc,IK.I (aj.alloc _),m,sh,IL⟩):p:=h
def Zc(h:p:=by (have a:(s.b1==0)=false:=uV);go_wp2;go_ret2;exact eL.mk' fb.h dV.h):p:=h
def a0L(h:p:=by (try dsimp only);exact⟨gp.h.a3 ey,gp.h.a3 kA,gp.h.a3 fu,gp.h.a3 kB⟩):p:=h
def Om(h:p:=by (try dsimp only);exact⟨jG.h.a3 ey,jG.h.a3 kA,jG.h.a3 fu,jG.h.a3 kB⟩):p:=h
def a0E(h:p:=by (try dsimp only);(have a:F [] wr _:=uR.h;exact⟨a.a3 e0,a.a3 d4⟩)):p:=h
def a1Y(h:p:=by have a:=fh.2 av vh (by rw[gW.h];exact vi);simpa only[gW.h]using a):p:=h
def a1X(h:p:=by rw[show k*jR+jR=(k+1)*jR by grind];exact jM _ m):p:=h
def a1P(h:p:=by exact⟨k+1,m,be,wP (A (a4:f5 l f t k=false))⟩):p:=h
def a1Z(h:p:=by simp[results,Tryz.results246,go_sem,dH,eo,ef,bn.af,bn.an,bn.a6]):p:=h
def a2R(h:p:=by exact⟨k+1,fN,m,be,m,bU,bW.aa aj⟩):p:=h
def a0T(h:p:=by exact hF _ (hF _ aL)):p:=h
def SL(h:p:=by simp;rintro rfl;exact vf (gO _ eg)):p:=h
def N3(h:p:=by exact⟨cQ+1,m,be,Bo.h,kx.h _⟩):p:=h
def TT(h:p:=by go_ret;exact⟨cP Do.h.symm,ci.h⟩):p:=h
def a1t(h:p:=by simp[results,Tryz.results134,go_sem,d4,d7,eI]):p:=h
def Kf(h:p:=by (try dsimp only);exact⟨gK,gh,hP,xU,xV,xW⟩):p:=h
def ZK(h:p:=by simp[results,Tryz.results35,go_sem,iP,hw]):p:=h
def ZL(h:p:=by rw[ks.h,gL.h];simp at bw;simp[bw]):p:=h
def a1D(h:p:=by have:=k0.h _ bw;simp at this;try omega):p:=h
def a1J(h:p:=by have:=lS g aL;exact FR):p:=h
def a1K(h:p:=by (try dsimp only);exact⟨e0,dD,d4,d7⟩):p:=h
def a3q(h:p:=by first|exact z.h.c|exact z.h.c.d9):p:=h
def Qz(h:p:=by go_ret2;exact eL.mk' fb.h dV.h):p:=h
def a3k(h:p:=by rw[fy];exact oa.h):p:=h
def a1E(h:p:=by have:=k0 _ bw;simp at this;omega):p:=h
def BI(h:p:=by rw[<-fb.h]at this;exact this):p:=h
def a3h(h:p:=by have:=(bU.ae.lt bM bw).1;omega):p:=h
def a3i(h:p:=by have:=(c6.ae.lt _ bw).2;omega):p:=h
def a2S(h:p:=by exact ve m):p:=h
def LC(h:p:=by exact BB y _):p:=h
def L0(h:p:=by simp[aF,Value.ownBlock]):p:=h
def Fx(h:p:=by simp at bw;simp[bw]):p:=h
def a1L(h:p:=by have:=hg.size;omega):p:=h
def a07(h:p:=by (try dsimp only);(have a:F [mp] yM (bZ yM (bl mp 1) (q wL (av+1) fu)):=aj.setCell (aN a8) _;exact⟨a.aJ f8 C4,a.aJ fQ C4,a.aJ fR C4,a.aJ g6 C4,a.aJ gJ C4⟩)):p:=h
def a0S(h:p:=by go_simp;refine aV cw bq λa=>?_;clear cw di e2;refine cG ?_;clear a;go_wp2;go_roundw;(.exact⟨av+1,_,m,be,by rw[List.replicate_succ',<-q5];exact xY.1,kX.trans xY.2⟩);simp[intOf];omega):p:=h
def a1M(h:p:=by simp[results,Tryz.results134,go_sem,d4,d7,eI]):p:=h
def a1I(h:p:=by simp[results,Tryz.results65,go_sem,iP,hw]):p:=h
def FR(h:p:=by first|omega|(simp;omega)):p:=h
def a39(h:p:=by have:=gM.h;simp;omega):p:=h
end
end Go.Proofs.YtfekcilkpafpjaaGreat
