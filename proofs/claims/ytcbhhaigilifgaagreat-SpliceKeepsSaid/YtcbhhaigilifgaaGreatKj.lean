/- Parts of the proof, in one file. -/
import Derived.Test.YtcbhhaigilifgaaGreatKi
open Option renaming some → ab, none → ad
open Bool renaming true → ae, false → af
open Decidable renaming decide → ag
open Go.Proofs.Tryz renaming prog → yb
set_option linter.unusedVariables false
section
set_option maxRecDepth 4000
namespace Go.Proofs.YtcbhhaigilifgaaGreat
open Go Go.Ev
noncomputable section
instance aqf:DecidableEq bn:=inferInstance
instance aqg:DecidableEq bz:=inferInstance
instance aqh:DecidableEq ((yL bz)×Int):=inferInstance
instance aqi:DecidableEq ((yL bn)×(yL bz)×Int):=inferInstance
instance aqj:DecidableEq Chan:=inferInstance
abbrev zH:=aC×aNa×Chan×aNm×yG×Chan×yG×Tx
abbrev AZ:Type:=(Bool×Int×Int×Int×Int×Int×zH)
abbrev ZNr:Type:=(Bool×Int×Int×Int×Int×zH)
def ZT(F:Nat):AZ->yO (AZ⊕ZNr)
 |(d,e,f,a,g,c,h,b,i,j,k,l,m,n)=>
 if(bi a 2)=ae then
  (b[a.toNat]?).bind λo=>
  if(ag (c < (o.1.length:Int)))=ae then
   if(bi a 2)=ae then
    (b[a.toNat]?).bind λp=>
    (idx p.1 c).bind λq=>
    if(bi a 2)=ae then
     (b[a.toNat]?).bind λr=>
     (idx r.1 c).bind λs=>
     ab (.inl (d,wi (e+q.2),f,a,wi (g+s.2),wi (c+1),h,b,i,j,k,l,m,n))
    else
    ad
   else
   ad
  else
  ab (.inr (d,e,f,a,g,h,b,i,j,k,l,m,n))
 else
 ad
def jx:yL bG:=[.var (.v Zp) ae,.var (.v aMS) ae,.var (.v Zi) ae,.var (.v aNh) ae,.var (.v Zb) ae,.var (.v Zi) ae,.var (.v Zb) ae,.var (.v bu) ae]
abbrev ZNs:yL Ty:=[.bool,yI,yI,yI,yI,Zp,aMS,Zi,aNh,Zb,Zi,Zb,bu]
abbrev ZNt:yL Ty:=[.bool,yI,yI,yI,yI,yI,Zp,aMS,Zi,aNh,Zb,Zi,Zb,bu]
def Qi:Lp:=⟨[(3,.aj 1 []),(5,.v .bool),(6,.aj 2 []),(8,.aj 4 []),(10,.aj 5 []),(11,.aj 6 []),(12,.aj 7 []),(14,.v yI),(15,.v yI),(16,.v yI),(17,.v yI),(18,.v yI)],jx,ZNt,[⟨.exit 2,[(3,.aj 1 []),(5,.v .bool),(6,.aj 2 []),(8,.aj 4 []),(10,.aj 5 []),(11,.aj 6 []),(12,.aj 7 []),(14,.v yI),(15,.v yI),(16,.v yI),(17,.v yI)],jx,ZNs⟩],Zc (ZT yD) yD⟩
def qA:HI:={ still:=[4,25,34,40,41,42,73,183,184,189,210,211,212,219]}
theorem Zcw:Qi.bR yb 5 1:=ZG qA [] [] trivial
def ZU(F:Nat):AZ->yO (AZ⊕ZNr)
 |(d,e,f,a,g,c,h,b,i,j,k,l,m,n)=>
 if(bi a 2)=ae then
  (b[a.toNat]?).bind λo=>
  let p:Bool:=ag (c < (o.2.1.length:Int))
  if p=ae then
   if(bi a 2)=ae then
    (b[a.toNat]?).bind λq=>
    (idx q.2.1 c).bind λr=>
    ab (.inl (d,e,f,a,wi (g - r.1),wi (c+1),h,b,i,j,k,l,m,n))
   else
   ad
  else
  ab (.inr (d,e,f,a,g,h,b,i,j,k,l,m,n))
 else
 ad
def Qj:Lp:=⟨[(3,.aj 1 []),(5,.v .bool),(6,.aj 2 []),(8,.aj 4 []),(10,.aj 5 []),(11,.aj 6 []),(12,.aj 7 []),(14,.v yI),(15,.v yI),(16,.v yI),(17,.v yI),(19,.v yI)],jx,ZNt,[⟨.exit 4,[(3,.aj 1 []),(5,.v .bool),(6,.aj 2 []),(8,.aj 4 []),(10,.aj 5 []),(11,.aj 6 []),(12,.aj 7 []),(14,.v yI),(15,.v yI),(16,.v yI),(17,.v yI)],jx,ZNs⟩],Zc (ZU yD) yD⟩
theorem Zcx:Qj.bR yb 5 2:=ZG qA [] [] trivial
abbrev BA:Type:=(Bool×Int×Int×Int×zH)
abbrev ZNu:Type:=(Bool×Int×Int×zH)
def ZV(F:Nat):BA->yO (BA⊕((Bool×zH)⊕ZNu))
 |(D,E,G,B,H,C,I,J,K,L,M,N)=>
 if(ag (B < 2))=ae then
  if(bi B 2)=ae then
   (C[B.toNat]?).bind λs=>
   (Zc (ZT F) F (D,E,G,B,wi (0 - s.2.2),0,H,C,I,J,K,L,M,N)).bind λ(n,o,p,q,r,t,u,v,w,x,y,z,A)=>
   (Zc (ZU F) F (n,o,p,q,r,0,t,u,v,w,x,y,z,A)).bind λ(k,l,m,a,d,e,f,g,h,c,i,b,j)=>
   if(bi a 2)=ae then
    (b.2.1[a.toNat]?).bind λO=>
    if(bi a 2)=ae then
     (c.2.1[a.toNat]?).bind λP=>
     if(O !=(wi (P+d)))=ae then
      ab (.inr (.inl (af,e,f,g,h,c,i,b,j)))
     else
     ab (.inl (k,l,m,wi (a+1),e,f,g,h,c,i,b,j))
    else
    ad
   else
   ad
  else
  ad
 else
 ab (.inr (.inr (D,E,G,H,C,I,J,K,L,M,N)))
abbrev ZNv:yL Ty:=[.bool,yI,yI,Zp,aMS,Zi,aNh,Zb,Zi,Zb,bu]
abbrev ZNw:yL Ty:=[.bool,yI,yI,yI,Zp,aMS,Zi,aNh,Zb,Zi,Zb,bu]
def Qk:Lp:=⟨[(3,.aj 1 []),(5,.v .bool),(6,.aj 2 []),(8,.aj 4 []),(10,.aj 5 []),(11,.aj 6 []),(12,.aj 7 []),(14,.v yI),(15,.v yI),(16,.v yI)],jx,ZNw,[⟨.ret,[(4,.v .bool)],jx,[.bool,Zp,aMS,Zi,aNh,Zb,Zi,Zb,bu]⟩,⟨.exit 0,[(5,.v .bool),(6,.aj 2 []),(8,.aj 4 []),(10,.aj 5 []),(11,.aj 6 []),(12,.aj 7 []),(14,.v yI),(15,.v yI)],jx,ZNv⟩],Zc (ZV yD) yD⟩
theorem Zcy:Qk.bR yb 5 0:=ZG qA [(1,Qi),(2,Qj)] [] trivial ⟨Zcw,Zcx,aw⟩
def ZH(F:Nat):BA->yO (BA⊕ZNu)
 |(c,d,e,a,f,g,h,i,j,k,l,b)=>
 let m:Bool:=ag (a < (b.2.1.length:Int))
 if m=ae then
  (idx b.2.1 a).bind λn=>
  ab (.inl (c,d,wi (e+n.1),wi (a+1),f,g,h,i,j,k,l,b))
 else
 ab (.inr (c,d,e,f,g,h,i,j,k,l,b))
def Ql:Lp:=⟨[(5,.v .bool),(6,.aj 2 []),(8,.aj 4 []),(10,.aj 5 []),(11,.aj 6 []),(12,.aj 7 []),(14,.v yI),(15,.v yI),(20,.v yI)],jx,ZNw,[⟨.exit 6,[(5,.v .bool),(6,.aj 2 []),(8,.aj 4 []),(10,.aj 5 []),(11,.aj 6 []),(12,.aj 7 []),(14,.v yI),(15,.v yI)],jx,ZNv⟩],Zc (ZH yD) yD⟩
theorem Zcz:Ql.bR yb 5 3:=ZG qA [] [] trivial
abbrev ZNx:Type:=(Bool×Int×zH)
def ZW(F:Nat):ZNx->yO (ZNx⊕((Bool×zH)⊕(Bool×zH)))
 |(j,a,d,e,f,g,c,h,b,i)=>
 let k:Bool:=ag (a < (b.2.2.1.length:Int))
 if k=ae then
  (idx b.2.2.1 a).bind λl=>
  (idx c.2.2.1 a).bind λm=>
  if(!(ag (l=m)))=ae then
   ab (.inr (.inl (af,d,e,f,g,c,h,b,i)))
  else
  ab (.inl (j,wi (a+1),d,e,f,g,c,h,b,i))
 else
 ab (.inr (.inr (j,d,e,f,g,c,h,b,i)))
abbrev ZN8:yL Ty:=[.bool,yI,Zp,aMS,Zi,aNh,Zb,Zi,Zb,bu]
def Qm:Lp:=⟨[(5,.v .bool),(6,.aj 2 []),(8,.aj 4 []),(10,.aj 5 []),(11,.aj 6 []),(21,.v yI)],jx,ZN8,[⟨.ret,[(4,.v .bool)],jx,[.bool,Zp,aMS,Zi,aNh,Zb,Zi,Zb,bu]⟩,⟨.exit 8,[(5,.v .bool),(6,.aj 2 []),(10,.aj 5 [])],jx,[.bool,Zp,aMS,Zi,aNh,Zb,Zi,Zb,bu]⟩],Zc (ZW yD) yD⟩
theorem ZcA:Qm.bR yb 5 4:=ZG qA [] [] trivial
def Xu(F:Nat)(a0:aC)(a1:aNa):yO (Bool):=
 ((ab ae)).bind λs=>
 (VD F a0).bind λA=>
 if(!A.2.2.2)=ae then
  ab s
 else
 (Qd F a1).bind λB=>
 if(!B)=ae then
  ab s
 else
 (WL F A.1 A.2.2.1 a1).bind λC=>
 if(C.2.2.2 !=0)=ae then
  if s=ae then
   let D:Bool:=ag (C.1=((dt,(0:Int)),(0:Int),([(0,0,0,0,0),(0,0,0,0,0)]:yL bn),([(0,0,0,0,0,0),(0,0,0,0,0,0)]:yL bz),(0:Int)))
   if D=ae then
    ab ((C.2.2.1.1.length:Int)==0)
   else
   ab af
  else
  ab af
 else
 if((C.2.2.1.2.1.length:Int)==0)=ae then
  ab af
 else
 if((C.2.2.1.1.length:Int)==0)=ae then
  ab af
 else
 (oC F C.2.2.1).bind λE=>
 if((E.length:Int)==0)=ae then
  ab af
 else
 (a1[0]?).bind λG=>
 (a1[1]?).bind λH=>
 (Zc (ZV F) F (s,A.1.2.1,wi (G.2.2+H.2.2),0,a0,a1,A.1,A.2.1,A.2.2.1,C.1,C.2.1,C.2.2.1)).bind λI=>
 match I with
 |.inl (a,_,_,_,_,_,_,_,_)=>
  ab a
 |.inr (o,p,q,r,t,u,v,w,x,y,z)=>
  (Zc (ZH F) F (o,p,q,0,r,t,u,v,w,x,y,z)).bind λ(k,d,e,l,m,j,n,g,h,f,i)=>
  if(d !=e)=ae then
   ab af
  else
  let J:Bool:=(f.2.2.1.length:Int)!=(g.2.2.1.length:Int)
  if J=ae then
   ab af
  else
  (au F h f).bind λK=>
  if(!K)=ae then
   ab af
  else
  (Q9 F f).bind λL=>
  if(L !=h.2.1)=ae then
   ab af
  else
  (idx i.2.1 0).bind λM=>
  if(M.1 !=h.2.1)=ae then
   ab af
  else
  (idx i.2.1 0).bind λN=>
  (XY F h).bind λO=>
  (zr F N.2 O).bind λP=>
  if(!P)=ae then
   ab af
  else
  (oC F i).bind λQ=>
  (idx Q 0).bind λR=>
  if(!(ag (h.1=R)))=ae then
   ab af
  else
  (idx i.1 0).bind λS=>
  if(!(ag (S.1=j.1)))=ae then
   ab af
  else
  (Zc (ZW F) F (k,0,l,m,j,n,g,h,f,i)).bind λT=>
  match T with
  |.inl (a,_,_,_,_,_,_,_,_)=>
   ab a
  |.inr (a,_,_,b,_,_,c,_,_)=>
   if a=ae then
    let U:Bool:=ag ((b.1,b.2.1,c.2.2.1,c.2.2.2.1,c.2.2.2.2)=b)
    ab U
   else
   ab af
def Zfr:Fs yb:=⟨5,[.v Zp,.v aMS],[],[Zp,aMS],(zN .bool),λx=>Xu yD x.1 x.2⟩
theorem Zei:Zfr.Ok:=be qA [(0,Qk),(3,Ql),(4,Qm)] [ZKt,ZdH,Zfj,Zlf,KV,VV,KW,Zg2,Zp0] ⟨ZMg,Zdh,ZkT,MG,Zsp,Vb,Zjt,ZfX,Zw7,aw⟩ ⟨Zcy,Zcz,ZcA,aw⟩
end
end Go.Proofs.YtcbhhaigilifgaaGreat
end
