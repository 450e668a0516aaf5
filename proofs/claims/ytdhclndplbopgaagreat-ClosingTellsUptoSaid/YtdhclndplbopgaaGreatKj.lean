/- Parts of the proof, in one file. -/
import Derived.Test.YtdhclndplbopgaaGreatKi
set_option linter.unusedVariables false
section
set_option maxRecDepth 4000
namespace Go.Proofs.YtdhclndplbopgaaGreat
open Go Go.Ev
noncomputable section
abbrev ZC9:Type:=((yL Zu)×Bool×Int×yM×(yL yG)×(yL Int)×yG×Zz×(yL Kit)×yH×Tx×Tx×Zz×Kit×Int×Int×(yL Int)×Int×(yL yG)×Int×Sig×(yL Cond)×(yL Msg)×(yL Msg)×Zz×Kit×Int×yH×(yL yG)×Int×Sig×(yL Msg)×(yL Msg)×Zz×Kit×Int×Int×(yL Int)×Int×(yL yG)×Int×Sig×(yL Cond)×(yL Msg)×(yL Msg)×qL)
abbrev ZxE:Type:=(Bool×yM×(yL yG)×(yL Int)×yG×Zz×(yL Kit)×yH×Tx×Tx×Zz×Kit×Int×Int×(yL Int)×Int×(yL yG)×Int×Sig×(yL Cond)×(yL Msg)×(yL Msg)×Zz×Kit×Int×yH×(yL yG)×Int×Sig×(yL Msg)×(yL Msg)×Zz×Kit×Int×Int×(yL Int)×Int×(yL yG)×Int×Sig×(yL Cond)×(yL Msg)×(yL Msg)×qL)
def Zr(F:Nat):(dT8⊕dT9⊕ZLL)->yO (ZC9⊕(ZxE⊕ZxE))
 |.inl (a,b,c,d,e,f,g,h,i,j,k,l,m,n,o,p,q,r,t,u,v,w,x,y,z,A,B,C,D,E,G,H,I,J,K,L,M,N,O,P,Q,R,S,T,U,V,W,X,Y,Z,b0,b1,_,_)=>
  some (.inr (.inl (a,b,c,d,e,f,g,h,i,j,k,l,m,n,o,p,q,r,t,u,v,w,x,y,z,A,B,C,D,E,G,H,I,J,K,L,M,N,O,P,Q,R,S,T,U,V,W,X,Y,Z,b0,b1)))
 |.inr (.inl (a,b,c,d,e,f,g,h,i,j,k,l,m,n,o,p,q,r,t,u,v,w,x,y,z,A,B,C,D,E,G,H,I,J,K,L,M,N,O,P,Q,R,S,T,U,V,W,X,Y,Z,b0,b1,b2,b3,_,_))=>
  some (.inl (a,b,wi (c+1),d,e,f,g,h,i,j,k,l,m,n,o,p,q,r,t,u,v,w,x,y,z,A,B,C,D,E,G,H,I,J,K,L,M,N,O,P,Q,R,S,T,U,V,W,X,Y,Z,b0,b1,b2,b3))
 |.inr (.inr (j6,j7,j8,d3,g6,g7,g8,g9,h0,h1,h2,h3,h4,d5,d6,d7,d8,d9,f0,f1,f2,f3,f4,f5,f6,f7,f8,f9,g0,g1,g2,g3,g4,g5,h5,h6,h7,h8,h9,i0,i1,i2,i3,i4,i5,i6,i7,i8,i9,j0,j1,j2,j3,j4,j5,_,d4))=>
  if(d3==0)=true then
   (Z9 F d4 d5 d6 d7 d8 d9 f0 f1 f2 f3 f4 f5 f6).bind λ(d1,d2,b9,c0,c1,c2,c3,c4,c5,c6,c7,c8,c9,d0)=>
   (Wm F d4 f7 f8 f9 g0 g1 g2 g3 g4 g5).bind λ(b7,b8,Y,Z,b0,b1,b2,b3,b4,b5,b6)=>
   (Wn F b9 c0 c1 c2 c3 c4 c5 c6 c7 c8 c9 d0).bind λ(K,X,L,M,N,O,P,Q,R,S,T,U,V,W)=>
   (Wo F Y Z b0 b1 b2 b3 b4 b5 b6).bind λ(y,J,z,A,B,C,D,E,G,H,I)=>
   (YJ F K y).bind λo1=>
   (YM F d1 b7).bind λo2=>
   let z0:yO (ZC9⊕(ZxE⊕ZxE)):=some (.inr (.inl (false,g6,g7,g8,g9,h0,h1,h2,h3,h4,L,M,N,O,P,Q,R,S,T,U,V,W,z,A,B,C,D,E,G,H,I,h5,h6,h7,h8,h9,i0,i1,i2,i3,i4,i5,i6,i7,i8,i9,j0,j1,j2,j3,j4,j5)))
   if(!o2)=true then
    z0
   else
   if(d2 !=b8)=true then
    z0
   else
   if(!o1)=true then
    z0
   else
   if(!(X==J))=true then
    z0
   else
   (ZN F L M N O P Q R S T U V W).bind λ(k,l,m,n,o,p,q,r,t,u,v,w,x)=>
   (Z8 F z A B C D E G H I).bind λ(a,b,c,d,e,f,g,h,i,j)=>
   (YM F k a).bind λo3=>
   if(!o3)=true then
    some (.inr (.inl (false,g6,g7,g8,g9,h0,h1,h2,h3,h4,l,m,n,o,p,q,r,t,u,v,w,x,b,c,d,e,f,g,h,i,j,h5,h6,h7,h8,h9,i0,i1,i2,i3,i4,i5,i6,i7,i8,i9,j0,j1,j2,j3,j4,j5)))
   else
   some (.inl (j6,j7,wi (j8+1),g6,g7,g8,g9,h0,h1,h2,h3,h4,l,m,n,o,p,q,r,t,u,v,w,x,b,c,d,e,f,g,h,i,j,h5,h6,h7,h8,h9,i0,i1,i2,i3,i4,i5,i6,i7,i8,i9,j0,j1,j2,j3,j4,j5))
  else
  if(d3==1)=true then
   (Z9 F d4 h5 h6 h7 h8 h9 i0 i1 i2 i3 i4 i5 i6).bind λ(d1,d2,b9,c0,c1,c2,c3,c4,c5,c6,c7,c8,c9,d0)=>
   (Wm F d4 i7 i8 i9 j0 j1 j2 j3 j4 j5).bind λ(b7,b8,Y,Z,b0,b1,b2,b3,b4,b5,b6)=>
   (Wn F b9 c0 c1 c2 c3 c4 c5 c6 c7 c8 c9 d0).bind λ(K,X,L,M,N,O,P,Q,R,S,T,U,V,W)=>
   (Wo F Y Z b0 b1 b2 b3 b4 b5 b6).bind λ(y,J,z,A,B,C,D,E,G,H,I)=>
   (YJ F K y).bind λo4=>
   (YM F d1 b7).bind λo5=>
   let z0:yO (ZC9⊕(ZxE⊕ZxE)):=some (.inr (.inl (false,g6,g7,g8,g9,h0,h1,h2,h3,h4,d5,d6,d7,d8,d9,f0,f1,f2,f3,f4,f5,f6,f7,f8,f9,g0,g1,g2,g3,g4,g5,L,M,N,O,P,Q,R,S,T,U,V,W,z,A,B,C,D,E,G,H,I)))
   if(!o5)=true then
    z0
   else
   if(d2 !=b8)=true then
    z0
   else
   if(!o4)=true then
    z0
   else
   if(!(X==J))=true then
    z0
   else
   (ZN F L M N O P Q R S T U V W).bind λ(k,l,m,n,o,p,q,r,t,u,v,w,x)=>
   (Z8 F z A B C D E G H I).bind λ(a,b,c,d,e,f,g,h,i,j)=>
   (YM F k a).bind λo6=>
   if(!o6)=true then
    some (.inr (.inl (false,g6,g7,g8,g9,h0,h1,h2,h3,h4,d5,d6,d7,d8,d9,f0,f1,f2,f3,f4,f5,f6,f7,f8,f9,g0,g1,g2,g3,g4,g5,l,m,n,o,p,q,r,t,u,v,w,x,b,c,d,e,f,g,h,i,j)))
   else
   some (.inl (j6,j7,wi (j8+1),g6,g7,g8,g9,h0,h1,h2,h3,h4,d5,d6,d7,d8,d9,f0,f1,f2,f3,f4,f5,f6,f7,f8,f9,g0,g1,g2,g3,g4,g5,l,m,n,o,p,q,r,t,u,v,w,x,b,c,d,e,f,g,h,i,j))
  else
  none
def Z4(F:Nat):ZC9->yO (ZC9⊕(ZxE⊕ZxE))
 |(l3,m6,l2,m7,m8,m9,n0,n1,n2,n3,n4,n5,n6,n7,n8,n9,p0,p1,p2,p3,p4,p5,p6,p7,p8,p9,q0,q1,q2,q3,q4,q5,q6,l4,l5,l6,l7,l8,l9,m0,m1,m2,m3,m4,m5,q7,q8,q9,r0,r1,r2,r3,r4,r5)=>
 if(decide (l2 < (l3.length:Int)))=true then
  (idx l3 l2).bind λe1413=>
  if(((e1413.2.1 % 2).toNat:Int)==0)=true then
   (ZN F l4 l5 l6 l7 l8 l9 m0 m1 m2 m3 m4 m5).bind λ(j9,k0,k1,k2,k3,k4,k5,k6,k7,k8,k9,l0,l1)=>
   (Z2 F (l3,m6,l2,0,j9,m7,m8,m9,n0,n1,n2,n3,n4,n5,n6,n7,n8,n9,p0,p1,p2,p3,p4,p5,p6,p7,p8,p9,q0,q1,q2,q3,q4,q5,q6,k0,k1,k2,k3,k4,k5,k6,k7,k8,k9,l0,l1,q7,q8,q9,r0,r1,r2,r3,r4,r5,e1413,(e1413.2.2.2.1,0,0,(0,0,0,0,0),0,[],e1413.2.2.2.2.2.1,e1413.2.2.2.2.2.2,yzz,0,([],[],0),(0,0,0,0,0),(0,0,0,0,0,0),e1413.2.2.2.2.1))).bind λo1425=>
   Zr F o1425
  else
  if(((e1413.2.1 % 2).toNat:Int)==1)=true then
   (ZN F n6 n7 n8 n9 p0 p1 p2 p3 p4 p5 p6 p7).bind λ(j9,k0,k1,k2,k3,k4,k5,k6,k7,k8,k9,l0,l1)=>
   (Z2 F (l3,m6,l2,1,j9,m7,m8,m9,n0,n1,n2,n3,n4,n5,k0,k1,k2,k3,k4,k5,k6,k7,k8,k9,l0,l1,p8,p9,q0,q1,q2,q3,q4,q5,q6,l4,l5,l6,l7,l8,l9,m0,m1,m2,m3,m4,m5,q7,q8,q9,r0,r1,r2,r3,r4,r5,e1413,(e1413.2.2.2.1,0,0,(0,0,0,0,0),0,[],e1413.2.2.2.2.2.1,e1413.2.2.2.2.2.2,yzz,0,([],[],0),(0,0,0,0,0),(0,0,0,0,0,0),e1413.2.2.2.2.1))).bind λo1550=>
   Zr F o1550
  else
  none
 else
 some (.inr (.inr (m6,m7,m8,m9,n0,n1,n2,n3,n4,n5,n6,n7,n8,n9,p0,p1,p2,p3,p4,p5,p6,p7,p8,p9,q0,q1,q2,q3,q4,q5,q6,l4,l5,l6,l7,l8,l9,m0,m1,m2,m3,m4,m5,q7,q8,q9,r0,r1,r2,r3,r4,r5)))
def ZKl:yL ESh:=[.var (.v Zv) true,.var (.v (.arr 2 Ze)) true,.var (.v (.arr 2 yI)) true,.var (.v Ze) true,.var (.v Zh) true,.var (.v (.arr 2 ZF)) true,.var (.v Zf) true,.var (.v yTx) true,.var (.v yTx) true,.var (.arr 2 1 [.ref 11 [],.ref 18 []]) true,.var (.arr 2 1 [.ref 15 [],.ref 22 []]) true,.var (.agg [.v Zh,.v ZF,.v yI,.agg [.v yI,.v (.arr 2 yI),.own 12 ZE,.v yI],.v (.arr 2 Ze),.v yI,.own 13 Zc,.own 14 Zc,.v Zy]) true,.log ZE 97,.log Zc 99,.log Zc 99,.var (.agg [.v Zh,.v ZF,.v yI,.v Zf,.v (.arr 2 Ze),.v yI,.own 16 Zc,.own 17 Zc,.v Zy]) true,.log Zc 99,.log Zc 99,.var (.agg [.v Zh,.v ZF,.v yI,.agg [.v yI,.v (.arr 2 yI),.own 19 ZE,.v yI],.v (.arr 2 Ze),.v yI,.own 20 Zc,.own 21 Zc,.v Zy]) true,.log ZE 97,.log Zc 99,.log Zc 99,.var (.agg [.v Zh,.v ZF,.v yI,.v Zf,.v (.arr 2 Ze),.v yI,.own 23 Zc,.own 24 Zc,.v Zy]) true,.log Zc 99,.log Zc 99]
abbrev ZO3:yL Ty:=[.bool,Zv,(.arr 2 Ze),(.arr 2 yI),Ze,Zh,(.arr 2 ZF),Zf,yTx,yTx,Zh,ZF,yI,yI,(.arr 2 yI),yI,(.arr 2 Ze),yI,Zy,(.sl ZE),(.sl Zc),(.sl Zc),Zh,ZF,yI,Zf,(.arr 2 Ze),yI,Zy,(.sl Zc),(.sl Zc),Zh,ZF,yI,yI,(.arr 2 yI),yI,(.arr 2 Ze),yI,Zy,(.sl ZE),(.sl Zc),(.sl Zc),Zh,ZF,yI,Zf,(.arr 2 Ze),yI,Zy,(.sl Zc),(.sl Zc)]
abbrev ZP5:yL Ty:=[(.sl ZB),.bool,yI,Zv,(.arr 2 Ze),(.arr 2 yI),Ze,Zh,(.arr 2 ZF),Zf,yTx,yTx,Zh,ZF,yI,yI,(.arr 2 yI),yI,(.arr 2 Ze),yI,Zy,(.sl ZE),(.sl Zc),(.sl Zc),Zh,ZF,yI,Zf,(.arr 2 Ze),yI,Zy,(.sl Zc),(.sl Zc),Zh,ZF,yI,yI,(.arr 2 yI),yI,(.arr 2 Ze),yI,Zy,(.sl ZE),(.sl Zc),(.sl Zc),Zh,ZF,yI,Zf,(.arr 2 Ze),yI,Zy,(.sl Zc),(.sl Zc)]
def Zay:Lp:=⟨[(3,.v (.sl ZB)),(13,.v .bool),(22,.ref 9 []),(23,.ref 10 []),(29,.v yI)],ZKl,ZP5,[⟨.ret,[(12,.v .bool)],ZKl,ZO3⟩,⟨.exit 2,[(13,.v .bool)],ZKl,ZO3⟩],Zb (Z4 yD) yD⟩
theorem Zd6:Zay.okA Tryz.prog 4 1:=Zz3 (fi:={ hi:=ZNT,bk:=[(7,Zax)],gh:=[(5,.split 31 [0,1]),(11,.split 31 [0,1]),(17,.split 31 [0,1])],un:=3}) (specs:={ l:=[QP,Zi4,Zc2,Zi5,Zc3,ZbZ,Zb7,WM]}) (okS ⟨ZbF,Zpo,Zkt,Zpp,Zku,Zfz,Zf2,VY,ytt⟩) (hb:=⟨Zd5,ytt⟩)
end
end Go.Proofs.YtdhclndplbopgaaGreat
end
