/- Parts of the proof, in one file. -/
import Derived.Test.YtghfiijgklnflaaGreatKi
set_option linter.unusedVariables false
section
set_option maxRecDepth 4000
namespace Go.Proofs.YtghfiijgklnflaaGreat
open Go Go.Ev
noncomputable section
abbrev ZLr:Type:=((yL Corsnedlaw42Act)×Bool×Int×(yL yB)×Int×Int×Bool×Unit×Int×Int×Bool×(yL Unit)×(yL Ze)×(yL Unit)×(yL Ze))
abbrev ZLs:Type:=(Bool×(yL yB)×Int×Int×Bool×Unit×Int×Int×Bool×(yL Unit)×(yL Ze)×(yL Unit)×(yL Ze))
def ZL(F:Nat):ZLr->yO (ZLr⊕(ZLs⊕ZLs))
 |(x,K,w,J,y,z,v,A,D,E,G,B,C,H,I)=>
 if(Nat.beq (bif v then 96 else 105) 96)=true then
  if(decide (w < (x.length:Int)))=true then
   (idx x w).bind λe816=>
   (ZaW F e816.2.2.2.2.2.1 e816.2.1).bind λo817=>
   (Wa F e816.2.2.2.2.2.1 e816.2.1).bind λo818=>
   if((bits .and .i64 e816.1 7)==3)=true then
    if(decide (o817=o818))=true then
     (Y4 F e816.2.2.2.1 y z A B C).bind λo821=>
     match o821 with
     |.inl (n,o,p,q,r,t)=>
      (ZV F e816.2.2.2.1 D E G H I).bind λo823=>
      match o823 with
      |.inl (g,h,i,j,k,l)=>
       if(!(n==g))=true then
        some (.inr (.inl (false,J,o,p,true,q,h,i,j,r,t,k,l)))
       else
       (Zl F o p q r t).bind λ(a,b,c,d,e,f)=>
       if(a !=(l.length:Int))=true then
        some (.inr (.inl (false,J,b,c,true,d,h,i,j,e,f,k,l)))
       else
       some (.inl (x,K,wi (w+1),J,b,c,true,d,h,i,j,e,f,k,l))
      |.inr (g,h,i,j,k,_,l,m)=>
       if(!(n==g))=true then
        some (.inr (.inl (false,J,o,p,true,q,h,i,j,r,t,()::(k++l),m)))
       else
       (Zl F o p q r t).bind λ(a,b,c,d,e,f)=>
       if(a !=(m.length:Int))=true then
        some (.inr (.inl (false,J,b,c,true,d,h,i,j,e,f,()::(k++l),m)))
       else
       some (.inl (x,K,wi (w+1),J,b,c,true,d,h,i,j,e,f,()::(k++l),m))
     |.inr (n,o,p,q,r,_,t,u)=>
      (ZV F e816.2.2.2.1 D E G H I).bind λo829=>
      match o829 with
      |.inl (g,h,i,j,k,l)=>
       if(!(n==g))=true then
        some (.inr (.inl (false,J,o,p,true,q,h,i,j,()::(r++t),u,k,l)))
       else
       (ZB F o p q t u).bind λ(a,b,c,d,e,f)=>
       if(a !=(l.length:Int))=true then
        some (.inr (.inl (false,J,b,c,true,d,h,i,j,()::(r++e),f,k,l)))
       else
       some (.inl (x,K,wi (w+1),J,b,c,true,d,h,i,j,()::(r++e),f,k,l))
      |.inr (g,h,i,j,k,_,l,m)=>
       if(!(n==g))=true then
        some (.inr (.inl (false,J,o,p,true,q,h,i,j,()::(r++t),u,()::(k++l),m)))
       else
       (ZB F o p q t u).bind λ(a,b,c,d,e,f)=>
       if(a !=(m.length:Int))=true then
        some (.inr (.inl (false,J,b,c,true,d,h,i,j,()::(r++e),f,()::(k++l),m)))
       else
       some (.inl (x,K,wi (w+1),J,b,c,true,d,h,i,j,()::(r++e),f,()::(k++l),m))
    else
    some (.inr (.inl (false,J,y,z,true,A,D,E,G,B,C,H,I)))
   else
   if((bits .and .i64 e816.1 7)==4)=true then
    (WR F true y z A B C).bind λo834=>
    match o834 with
    |.inl (g,h,i,j,k)=>
     if(!(decide (o817=o818)))=true then
      some (.inr (.inl (false,J,g,h,false,i,D,E,true,j,k,H,I)))
     else
     (Zm F g h i j k).bind λ(a,b,c,d,e,f)=>
     let y837:Bool:=a !=(I.length:Int)
     if y837=true then
      some (.inr (.inl (false,J,b,c,false,d,D,E,true,e,f,H,I)))
     else
     some (.inl (x,K,wi (w+1),J,b,c,false,d,D,E,true,e,f,H,I))
    |.inr (g,h,i,j,k)=>
     if(!(decide (o817=o818)))=true then
      some (.inr (.inl (false,J,g,h,true,i,D,E,true,j,k,H,I)))
     else
     (Zl F g h i j k).bind λ(a,b,c,d,e,f)=>
     let y840:Bool:=a !=(I.length:Int)
     if y840=true then
      some (.inr (.inl (false,J,b,c,true,d,D,E,true,e,f,H,I)))
     else
     some (.inl (x,K,wi (w+1),J,b,c,true,d,D,E,true,e,f,H,I))
   else
   if((bits .and .i64 e816.1 7)==5)=true then
    (WR F false y z A B C).bind λo841=>
    match o841 with
    |.inl (g,h,i,j,k)=>
     if(!(decide (o817=o818)))=true then
      some (.inr (.inl (false,J,g,h,false,i,D,E,false,j,k,H,I)))
     else
     (Zm F g h i j k).bind λ(a,b,c,d,e,f)=>
     let y844:Bool:=a !=(I.length:Int)
     if y844=true then
      some (.inr (.inl (false,J,b,c,false,d,D,E,false,e,f,H,I)))
     else
     some (.inl (x,K,wi (w+1),J,b,c,false,d,D,E,false,e,f,H,I))
    |.inr (g,h,i,j,k)=>
     if(!(decide (o817=o818)))=true then
      some (.inr (.inl (false,J,g,h,true,i,D,E,false,j,k,H,I)))
     else
     (Zl F g h i j k).bind λ(a,b,c,d,e,f)=>
     let y847:Bool:=a !=(I.length:Int)
     if y847=true then
      some (.inr (.inl (false,J,b,c,true,d,D,E,false,e,f,H,I)))
     else
     some (.inl (x,K,wi (w+1),J,b,c,true,d,D,E,false,e,f,H,I))
   else
   if((bits .and .i64 e816.1 7)==6)=true then
    if(decide (o817=o818))=true then
     (VR F e816.2.2.2.2.1 y z A B C).bind λ(m,n,o,p,q,r)=>
     (Yn F e816.2.2.2.2.1 D E G H I).bind λ(g,h,i,j,k,l)=>
     (Wm F m g).bind λo865=>
     if(!o865)=true then
      some (.inr (.inl (false,J,n,o,true,p,h,i,j,q,r,k,l)))
     else
     (Zl F n o p q r).bind λ(a,b,c,d,e,f)=>
     if(a !=(l.length:Int))=true then
      some (.inr (.inl (false,J,b,c,true,d,h,i,j,e,f,k,l)))
     else
     some (.inl (x,K,wi (w+1),J,b,c,true,d,h,i,j,e,f,k,l))
    else
    some (.inr (.inl (false,J,y,z,true,A,D,E,G,B,C,H,I)))
   else
   if((bits .and .i64 e816.1 7)==7)=true then
    (Vr F e816.2.2.2.2.2.1 e816.2.1.1 e816.2.2.2.2.2.2 y z A B C).bind λ(n,o,p,q,r,t,u)=>
    (Yi F e816.2.2.2.2.2.1 e816.2.1.1 e816.2.2.2.2.2.2 D E G H I).bind λ(g,h,i,j,k,l,m)=>
    if(decide (o817=o818))=true then
     if(decide (n=g))=true then
      if(!(o==h))=true then
       some (.inr (.inl (false,J,p,q,true,r,i,j,k,t,u,l,m)))
      else
      (Zl F p q r t u).bind λ(a,b,c,d,e,f)=>
      if(a !=(m.length:Int))=true then
       some (.inr (.inl (false,J,b,c,true,d,i,j,k,e,f,l,m)))
      else
      some (.inl (x,K,wi (w+1),J,b,c,true,d,i,j,k,e,f,l,m))
     else
     some (.inr (.inl (false,J,p,q,true,r,i,j,k,t,u,l,m)))
    else
    some (.inr (.inl (false,J,p,q,true,r,i,j,k,t,u,l,m)))
   else
   if(decide (o817=o818))=true then
    (WD F e816.2.1 e816.2.2.1 y z A B C).bind λ(m,n,o,p,q,r)=>
    (Xw F e816.2.1 e816.2.2.1 D E G H I).bind λ(g,h,i,j,k,l)=>
    if(!(m==g))=true then
     some (.inr (.inl (false,J,n,o,true,p,h,i,j,q,r,k,l)))
    else
    (Zl F n o p q r).bind λ(a,b,c,d,e,f)=>
    if(a !=(l.length:Int))=true then
     some (.inr (.inl (false,J,b,c,true,d,h,i,j,e,f,k,l)))
    else
    some (.inl (x,K,wi (w+1),J,b,c,true,d,h,i,j,e,f,k,l))
   else
   some (.inr (.inl (false,J,y,z,true,A,D,E,G,B,C,H,I)))
  else
  some (.inr (.inr (K,J,y,z,true,A,D,E,G,B,C,H,I)))
 else
 if(Nat.beq (bif v then 96 else 105) 105)=true then
  if(decide (w < (x.length:Int)))=true then
   (idx x w).bind λe884=>
   (ZaW F e884.2.2.2.2.2.1 e884.2.1).bind λo885=>
   (Wa F e884.2.2.2.2.2.1 e884.2.1).bind λo886=>
   if((bits .and .i64 e884.1 7)==3)=true then
    if(decide (o885=o886))=true then
     (ZaL F e884.2.2.2.1 y z A B C).bind λo889=>
     match o889 with
     |.inl (n,o,p,q,r,t)=>
      (ZV F e884.2.2.2.1 D E G H I).bind λo891=>
      match o891 with
      |.inl (g,h,i,j,k,l)=>
       if(!(n==g))=true then
        some (.inr (.inl (false,J,o,p,false,q,h,i,j,r,t,k,l)))
       else
       (Zm F o p q r t).bind λ(a,b,c,d,e,f)=>
       if(a !=(l.length:Int))=true then
        some (.inr (.inl (false,J,b,c,false,d,h,i,j,e,f,k,l)))
       else
       some (.inl (x,K,wi (w+1),J,b,c,false,d,h,i,j,e,f,k,l))
      |.inr (g,h,i,j,k,_,l,m)=>
       if(!(n==g))=true then
        some (.inr (.inl (false,J,o,p,false,q,h,i,j,r,t,()::(k++l),m)))
       else
       (Zm F o p q r t).bind λ(a,b,c,d,e,f)=>
       if(a !=(m.length:Int))=true then
        some (.inr (.inl (false,J,b,c,false,d,h,i,j,e,f,()::(k++l),m)))
       else
       some (.inl (x,K,wi (w+1),J,b,c,false,d,h,i,j,e,f,()::(k++l),m))
     |.inr (n,o,p,q,r,_,t,u)=>
      (ZV F e884.2.2.2.1 D E G H I).bind λo897=>
      match o897 with
      |.inl (g,h,i,j,k,l)=>
       if(!(n==g))=true then
        some (.inr (.inl (false,J,o,p,false,q,h,i,j,()::(r++t),u,k,l)))
       else
       (Zw F o p q t u).bind λ(a,b,c,d,e,f)=>
       if(a !=(l.length:Int))=true then
        some (.inr (.inl (false,J,b,c,false,d,h,i,j,()::(r++e),f,k,l)))
       else
       some (.inl (x,K,wi (w+1),J,b,c,false,d,h,i,j,()::(r++e),f,k,l))
      |.inr (g,h,i,j,k,_,l,m)=>
       if(!(n==g))=true then
        some (.inr (.inl (false,J,o,p,false,q,h,i,j,()::(r++t),u,()::(k++l),m)))
       else
       (Zw F o p q t u).bind λ(a,b,c,d,e,f)=>
       if(a !=(m.length:Int))=true then
        some (.inr (.inl (false,J,b,c,false,d,h,i,j,()::(r++e),f,()::(k++l),m)))
       else
       some (.inl (x,K,wi (w+1),J,b,c,false,d,h,i,j,()::(r++e),f,()::(k++l),m))
    else
    some (.inr (.inl (false,J,y,z,false,A,D,E,G,B,C,H,I)))
   else
   if((bits .and .i64 e884.1 7)==4)=true then
    (WS F true y z A B C).bind λo902=>
    match o902 with
    |.inl (g,h,i,j,k)=>
     if(!(decide (o885=o886)))=true then
      some (.inr (.inl (false,J,g,h,false,i,D,E,true,j,k,H,I)))
     else
     (Zm F g h i j k).bind λ(a,b,c,d,e,f)=>
     let y905:Bool:=a !=(I.length:Int)
     if y905=true then
      some (.inr (.inl (false,J,b,c,false,d,D,E,true,e,f,H,I)))
     else
     some (.inl (x,K,wi (w+1),J,b,c,false,d,D,E,true,e,f,H,I))
    |.inr (g,h,i,j,k)=>
     if(!(decide (o885=o886)))=true then
      some (.inr (.inl (false,J,g,h,true,i,D,E,true,j,k,H,I)))
     else
     (Zl F g h i j k).bind λ(a,b,c,d,e,f)=>
     let y908:Bool:=a !=(I.length:Int)
     if y908=true then
      some (.inr (.inl (false,J,b,c,true,d,D,E,true,e,f,H,I)))
     else
     some (.inl (x,K,wi (w+1),J,b,c,true,d,D,E,true,e,f,H,I))
   else
   if((bits .and .i64 e884.1 7)==5)=true then
    (WS F false y z A B C).bind λo909=>
    match o909 with
    |.inl (g,h,i,j,k)=>
     if(!(decide (o885=o886)))=true then
      some (.inr (.inl (false,J,g,h,false,i,D,E,false,j,k,H,I)))
     else
     (Zm F g h i j k).bind λ(a,b,c,d,e,f)=>
     let y912:Bool:=a !=(I.length:Int)
     if y912=true then
      some (.inr (.inl (false,J,b,c,false,d,D,E,false,e,f,H,I)))
     else
     some (.inl (x,K,wi (w+1),J,b,c,false,d,D,E,false,e,f,H,I))
    |.inr (g,h,i,j,k)=>
     if(!(decide (o885=o886)))=true then
      some (.inr (.inl (false,J,g,h,true,i,D,E,false,j,k,H,I)))
     else
     (Zl F g h i j k).bind λ(a,b,c,d,e,f)=>
     let y915:Bool:=a !=(I.length:Int)
     if y915=true then
      some (.inr (.inl (false,J,b,c,true,d,D,E,false,e,f,H,I)))
     else
     some (.inl (x,K,wi (w+1),J,b,c,true,d,D,E,false,e,f,H,I))
   else
   if((bits .and .i64 e884.1 7)==6)=true then
    if(decide (o885=o886))=true then
     (ZaM F e884.2.2.2.2.1 y z A B C).bind λ(m,n,o,p,q,r)=>
     (Yn F e884.2.2.2.2.1 D E G H I).bind λ(g,h,i,j,k,l)=>
     (Wm F m g).bind λo919=>
     if(!o919)=true then
      some (.inr (.inl (false,J,n,o,false,p,h,i,j,q,r,k,l)))
     else
     (Zm F n o p q r).bind λ(a,b,c,d,e,f)=>
     if(a !=(l.length:Int))=true then
      some (.inr (.inl (false,J,b,c,false,d,h,i,j,e,f,k,l)))
     else
     some (.inl (x,K,wi (w+1),J,b,c,false,d,h,i,j,e,f,k,l))
    else
    some (.inr (.inl (false,J,y,z,false,A,D,E,G,B,C,H,I)))
   else
   if((bits .and .i64 e884.1 7)==7)=true then
    (Vs F e884.2.2.2.2.2.1 e884.2.1.1 e884.2.2.2.2.2.2 y z A B C).bind λ(n,o,p,q,r,t,u)=>
    (Yi F e884.2.2.2.2.2.1 e884.2.1.1 e884.2.2.2.2.2.2 D E G H I).bind λ(g,h,i,j,k,l,m)=>
    if(decide (o885=o886))=true then
     if(decide (n=g))=true then
      if(!(o==h))=true then
       some (.inr (.inl (false,J,p,q,false,r,i,j,k,t,u,l,m)))
      else
      (Zm F p q r t u).bind λ(a,b,c,d,e,f)=>
      if(a !=(m.length:Int))=true then
       some (.inr (.inl (false,J,b,c,false,d,i,j,k,e,f,l,m)))
      else
      some (.inl (x,K,wi (w+1),J,b,c,false,d,i,j,k,e,f,l,m))
     else
     some (.inr (.inl (false,J,p,q,false,r,i,j,k,t,u,l,m)))
    else
    some (.inr (.inl (false,J,p,q,false,r,i,j,k,t,u,l,m)))
   else
   if(decide (o885=o886))=true then
    (ZaN F e884.2.1 e884.2.2.1 y z A B C).bind λ(m,n,o,p,q,r)=>
    (Xw F e884.2.1 e884.2.2.1 D E G H I).bind λ(g,h,i,j,k,l)=>
    if(!(m==g))=true then
     some (.inr (.inl (false,J,n,o,false,p,h,i,j,q,r,k,l)))
    else
    (Zm F n o p q r).bind λ(a,b,c,d,e,f)=>
    if(a !=(l.length:Int))=true then
     some (.inr (.inl (false,J,b,c,false,d,h,i,j,e,f,k,l)))
    else
    some (.inl (x,K,wi (w+1),J,b,c,false,d,h,i,j,e,f,k,l))
   else
   some (.inr (.inl (false,J,y,z,false,A,D,E,G,B,C,H,I)))
  else
  some (.inr (.inr (K,J,y,z,false,A,D,E,G,B,C,H,I)))
 else
 none
def ZGs:yL ESh:=[.var (.v (.arr 32 .u8)) true,.var (.agg [.v (.int .i64),.v (.int .i64),.rw 3,.if2 96 105 (.v (.st []))]) true,.var (.agg [.v (.int .i64),.v (.int .i64),.rw 4,.v .bool]) true,.row Zd false 36,.row Zd true 36]
abbrev ZLt:yL Ty:=[.bool,(.arr 32 .u8),(.int .i64),(.int .i64),.bool,(.st []),(.int .i64),(.int .i64),.bool,(.sl (.st [])),(.sl Zd),(.sl (.st [])),(.sl Zd)]
abbrev ZL2:yL Ty:=[(.sl ZT),.bool,(.int .i64),(.arr 32 .u8),(.int .i64),(.int .i64),.bool,(.st []),(.int .i64),(.int .i64),.bool,(.sl (.st [])),(.sl Zd),(.sl (.st [])),(.sl Zd)]
def ZaO:Lp:=⟨[(2,.v (.sl ZT)),(9,.v .bool),(11,.ref 1 []),(12,.ref 2 []),(13,.v (.int .i64))],ZGs,ZL2,[⟨.ret,[(8,.v .bool)],ZGs,ZLt⟩,⟨.exit 0,[(9,.v .bool)],ZGs,ZLt⟩],Zf (ZL yD) yD⟩
def ZLu:HI:={ still:=[8,21,23,24,26,27,52,54,58,60,75,77,80,82,90,92,94,96,98,100,108,110,112,114,120,127,136,138,139,140,142,143,149,151,154,156,161,163,166,168,186]}
theorem ZeY:ZaO.okA Tryz.prog 3 0:=ZwH (fi:={ hi:=ZLu,gh:=[(1,.isplit 11 3 [96,105])]}) (specs:={ l:=[Zh0,Zaw,Zds,Za3,ZcO,ZfA,ZeW,ZcP,Zdt,Za4,ZcB,ZcR,ZaI,Zdu,Za5,Zdv,ZcN,ZeX,Zdw,ZcT,Zdx]}) (okS ⟨ZgB,Zc9,ZjZ,ZgW,Zi5,ZlK,ZkJ,Zi6,Zj0,ZgX,ZiU,Zi8,ZfX,Zj1,ZgY,Zj2,Zi3,ZkK,Zj3,Zja,Zj4,ytt⟩)
end
end Go.Proofs.YtghfiijgklnflaaGreat
end
