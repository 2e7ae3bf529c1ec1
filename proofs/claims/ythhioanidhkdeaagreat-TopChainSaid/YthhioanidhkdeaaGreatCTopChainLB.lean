/-
  What the light client trusts, in a world, is the host's chain.
-/
import Derived.Test.YthhioanidhkdeaaGreatCTopChainLA
namespace Go.Ax.V
open Go.Ax
set_option linter.unusedVariables false
set_option linter.unusedSimpArgs false
set_option autoImplicit true
set_option relaxedAutoImplicit true
theorem K7t(hx:RsT x) q r:Ok (Jw q r x) (λ_=>True):=by
 have hl:=hx.1;have hp:=hx.2;have hpl:=hp.1
 have l2:∀m:List Pr,(m.length:Int)=x.2.2.1.length->Ok (Jw_2 m (m.length:Int) 0 x) (λ_=>True):=λm hm=>by
  refine Jeg (Q:=λ_=>True) (λi:Int=>0<=i/\i<=m.length) (λi=>m.length - i) (by simp) λi hi=> ?_
  have e1:=oX (i+1)
  simp only[Jw_2_step,wp,e1]
  repeat' first|trivial|omega|intro _|with_reducible apply And.intro
 have l1:Ok (Jw_1 q.2.1 x.2.2.2.1.2.2.1 (x.2.2.2.1.2.2.1.length:Int) 0 q r x) (λo=>match o with| .inl _=>True| .inr y=>y.2.2.2=x):=by
  refine Jeg (λi:Int=>0<=i/\i<=x.2.2.2.1.2.2.1.length) (λi=>x.2.2.2.1.2.2.1.length - i) (by simp) λi hi=> ?_
  have e1:=oX (i+1)
  simp only[Jw_1_step,wp,e1]
  repeat' first|trivial|omega|intro _|with_reducible apply And.intro
 simp only[Jw,wp]
 refine⟨λ_=>trivial,λ_=>⟨λ_=>trivial,λ_=>(Jox hl).imp λb hb=>⟨λ_=>trivial,λ_=>⟨λ_=>⟨λc=>⟨⟨by omega,by omega⟩,λ_=>(K8q hp _ _).imp λ_ _=>⟨λ_=>trivial,λ_=>trivial⟩,λ_=>trivial⟩,λ_=>l1.imp λo ho=> ?_⟩,λ_=>(Jvt hp _ _ _).imp λu _=>⟨λ_=>trivial,λ_=>⟨λ_=>trivial,λc=>(l2 _ (by omega)).imp λo _=> ?_⟩⟩⟩⟩⟩⟩
 ·cases o with
  |inl y=>exact Jkk.2 trivial
  |inr y=>
   simp only[wp,ho]
   refine(Jvt hp _ _ _).imp λu _=>⟨λ_=>trivial,λ_=>⟨λ_=>trivial,λc=>(l2 _ (by omega)).imp λo _=> ?_⟩⟩
   cases o<;>exact Jkk.2 trivial
 ·cases o<;>exact Jkk.2 trivial
abbrev K7n:=List K7c×Int×List Pr×Int×Unit×Cli×RReg×List (Int×K7c)×List (Int×Int)×Int×Int×Int×(Bool×Unit)×Um
def Jvw(b:Nat)(o:K7n):Prop:=(o.1.length<=8/\∀k∈o.1,Jfk k.2.2.1)/\Jfk o.2.2.1/\CliT o.2.2.2.2.2.1/\RgT b o.2.2.2.2.2.2.1/\Jc6 o.2.2.2.2.2.2.2.2.2.1 o.2.2.2.2.2.2.2.2.2.2.1 o.2.2.2.2.2.2.2.2.2.2.2.1 o.2.2.2.2.2.2.2.2.2.2.2.2.2
theorem Kf5(ht:Int)(c:K7n)(hc:c.2.2.2.2.2.1.1.length<=1000):Ok (Jz ht c.1 c.2.1 c.2.2.1 c.2.2.2.1 c.2.2.2.2.1 c.2.2.2.2.2.1 c.2.2.2.2.2.2.1 c.2.2.2.2.2.2.2.1 c.2.2.2.2.2.2.2.2.1 c.2.2.2.2.2.2.2.2.2.1 c.2.2.2.2.2.2.2.2.2.2.1 c.2.2.2.2.2.2.2.2.2.2.2.1 c.2.2.2.2.2.2.2.2.2.2.2.2.1 c.2.2.2.2.2.2.2.2.2.2.2.2.2) (λo=>o.2.2=c):=by
 obtain⟨c1,c2,c3,c4,c5,c6,c7,c8,c9,c10,c11,c12,c13,c14⟩:=c
 dsimp only at*
 unfold Jz Jz_1
 simp only[wp]
 refine(Jeg (Q:=λo=>match o with
  | .inl o=>(o.2.1,o.2.2.1,o.2.2.2.1,o.2.2.2.2.1,o.2.2.2.2.2.1,o.2.2.2.2.2.2.1,o.2.2.2.2.2.2.2.1,o.2.2.2.2.2.2.2.2.1,o.2.2.2.2.2.2.2.2.2.1,o.2.2.2.2.2.2.2.2.2.2.1,o.2.2.2.2.2.2.2.2.2.2.2.1,o.2.2.2.2.2.2.2.2.2.2.2.2.1,o.2.2.2.2.2.2.2.2.2.2.2.2.2.1,o.2.2.2.2.2.2.2.2.2.2.2.2.2.2.1)=(c1,c2,c3,c4,c5,c6,c7,c8,c9,c10,c11,c12,c13,c14)
  | .inr o=>(o.1,o.2.1,o.2.2.1,o.2.2.2.1,o.2.2.2.2.1,o.2.2.2.2.2.1,o.2.2.2.2.2.2.1,o.2.2.2.2.2.2.2.1,o.2.2.2.2.2.2.2.2.1,o.2.2.2.2.2.2.2.2.2.1,o.2.2.2.2.2.2.2.2.2.2.1,o.2.2.2.2.2.2.2.2.2.2.2.1,o.2.2.2.2.2.2.2.2.2.2.2.2.1,o.2.2.2.2.2.2.2.2.2.2.2.2.2.1)=(c1,c2,c3,c4,c5,c6,c7,c8,c9,c10,c11,c12,c13,c14)) (λi:Int=>0<=i/\i<=c6.1.length) (λi=>c6.1.length - i) (by simp) λi hi=> ?_).imp λo ho=> ?_
 ·have e1:=oX (i+1)
  simp only[Jz_1_step,wp]
  repeat' first|omega|exact True.intro|intro _|with_reducible apply And.intro
 ·cases o with
  |inl o=>exact Jkk.2 ho
  |inr o=>exact Jkk.2 ho
theorem K1n(hx:RsT x)(hb:b<=1000)(hc:Jvw b c)(now:Int):Ok (J2k x now c.1 c.2.1 c.2.2.1 c.2.2.2.1 c.2.2.2.2.1 c.2.2.2.2.2.1 c.2.2.2.2.2.2.1 c.2.2.2.2.2.2.2.1 c.2.2.2.2.2.2.2.2.1 c.2.2.2.2.2.2.2.2.2.1 c.2.2.2.2.2.2.2.2.2.2.1 c.2.2.2.2.2.2.2.2.2.2.2.1 c.2.2.2.2.2.2.2.2.2.2.2.2.1 c.2.2.2.2.2.2.2.2.2.2.2.2.2) (λo=>Jvw b o.2/\(o.1=0->Jfk x.2.2.1)):=by
 obtain⟨⟨h1,h1'⟩,h2,h3,h4,h5⟩:=hc
 have hc:Jvw b c:=⟨⟨h1,h1'⟩,h2,h3,h4,h5⟩
 have hl:=h4.1;have hk:=h3.1;have hk2:=h3.2.1;have hxl:=hx.1
 have e2:=oX ((c.2.2.2.2.2.1.1.length:Int) - 1)
 unfold J2k
 simp only[wp]
 refine⟨λ_=>⟨hc,by simp⟩,λ_=>⟨λ_=>⟨hc,by simp⟩,λ_=>(Jox hxl).imp λq hq=>⟨λ_=>⟨hc,by simp⟩,λq1=>(K52 hb h4 x.1).imp λw hw=>⟨λ_=>⟨hc,by simp⟩,λw1=>⟨λ_=>⟨hc,by simp⟩,λ_=>⟨by omega,λ_=>⟨hc,by simp⟩,λ_=>⟨λ_=>⟨hc,by simp⟩,λ_=>(Kf5 _ c (by omega)).imp λu hu=> ?_⟩⟩⟩⟩⟩⟩⟩
 have hi:=hw w1
 have hr:=hq q1
 obtain⟨u1,u2,u3⟩:=u
 obtain rfl:u3=c:=hu
 have e3:=oX (x.1 - 1)
 dsimp only
 refine⟨λ_=>⟨hc,by simp⟩,λ_=>⟨λ_=>⟨hc,by simp⟩,λ_=>⟨by omega,(K7t hx _ _).imp λv _=>⟨λ_=>⟨hc,λ_=>hr⟩,λ_=>⟨by simp;omega,by simp;omega,(Kaa hb h4 x.1 hi).imp λy hy=>⟨⟨⟨by simp;omega,λk hk=> ?_⟩,h2,h3,hy,h5⟩,λ_=>hr⟩⟩⟩⟩⟩⟩
 rcases List.mem_append.1 hk with hk|hk
 ·exact h1' k hk
 ·rw[List.mem_singleton.1 hk];exact hr
theorem Jp9(hx:RsT x)(hb:b<=1000)(hc:Jvw b c)(hn:n<=100000)(ha:ac.length<=n)(now:Int) H:Ok (J1q x now ac () H c.1 c.2.1 c.2.2.1 c.2.2.2.1 c.2.2.2.2.1 c.2.2.2.2.2.1 c.2.2.2.2.2.2.1 c.2.2.2.2.2.2.2.1 c.2.2.2.2.2.2.2.2.1 c.2.2.2.2.2.2.2.2.2.1 c.2.2.2.2.2.2.2.2.2.2.1 c.2.2.2.2.2.2.2.2.2.2.2.1 c.2.2.2.2.2.2.2.2.2.2.2.2.1 c.2.2.2.2.2.2.2.2.2.2.2.2.2) (λo=>o.2.1.length<=n+1/\Jvw b o.2.2):=by
 unfold J1q
 simp only[wp]
 exact(K1n hx hb hc now).imp λo ho=>⟨λ_=>⟨by simp;omega,by simp;omega,by simp;omega,ho.1⟩,λ_=>⟨by omega,ho.1⟩⟩
theorem K82(hb:b<=1000)(hc:Jvw b c)(i:Int):Ok (J31 i c.1 c.2.1 c.2.2.1 c.2.2.2.1 c.2.2.2.2.1 c.2.2.2.2.2.1 c.2.2.2.2.2.2.1 c.2.2.2.2.2.2.2.1 c.2.2.2.2.2.2.2.2.1 c.2.2.2.2.2.2.2.2.2.1 c.2.2.2.2.2.2.2.2.2.2.1 c.2.2.2.2.2.2.2.2.2.2.2.1 c.2.2.2.2.2.2.2.2.2.2.2.2.1 c.2.2.2.2.2.2.2.2.2.2.2.2.2) (λo=>RgT b o.2.1):=by
 have h:=hc.2.2.2.1
 unfold J31
 simp only[wp]
 exact⟨λ_=>h,λ_=>(Ka0 hb h i).imp λu hu=>⟨λ_=>hu,λ_=>hu⟩⟩
theorem K86 i j (c:K7n):Ok (J32 i j c.1 c.2.1 c.2.2.1 c.2.2.2.1 c.2.2.2.2.1 c.2.2.2.2.2.1 c.2.2.2.2.2.2.1 c.2.2.2.2.2.2.2.1 c.2.2.2.2.2.2.2.2.1 c.2.2.2.2.2.2.2.2.2.1 c.2.2.2.2.2.2.2.2.2.2.1 c.2.2.2.2.2.2.2.2.2.2.2.1 c.2.2.2.2.2.2.2.2.2.2.2.2.1 c.2.2.2.2.2.2.2.2.2.2.2.2.2) (λ_=>True):=by
 unfold J32
 simp only[wp]
 exact⟨λ_=>trivial,λ_=>⟨λ_=>trivial,λ_=>⟨λ_=>trivial,λ_=>trivial⟩⟩⟩
theorem Keh(l:List (List UInt8))(i:Int)(hl:l.length<=60):(Jdm l i).length<=1000/\∀y∈Jdm l i,y.length=32:=by
 unfold Jdm
 split
 ·exact⟨Nat.le_trans (Je2 ..) (by omega),Jjw _ _ _⟩
 ·exact⟨by simp,by simp⟩
def PsT(p:Prf):Prop:=PfT p/\Jfk p.2.2.1/\p.2.2.2.1.length=p.2.2.1.length
theorem Jb0{l:List α}{i:Int}(h0:0<=i)(h1:i<l.length)(d:α):l.getD i.toNat d∈l:=by
 rw[List.getD_eq_getElem?_getD,List.getElem?_eq_getElem (by omega)];exact List.getElem_mem ..
theorem Jcy{P:α->Prop}{l:List α}(h:∀x∈l,P x){a:α}(ha:P a):∀x∈l++[a],P x:=λx hx=>by
 rcases List.mem_append.1 hx with hx|hx
 ·exact h x hx
 ·rw[List.mem_singleton.1 hx];exact ha
theorem Joy{l:List Pr}(h:Jfk l){a b:Int}(ha:0<=a)(hb:b<=l.length):Ok (J0r l a b) PsT:=by
 have hl:=h.1
 have kv:=K62 h
 simp only[J0r,wp]
 refine⟨λ_=>⟨⟨by simp,by simp⟩,⟨by simp,by simp⟩,by simp⟩,λc=> ?_⟩
 refine Jeg (λi:Int×List Pr×List (List (List UInt8))=>a<=i.1/\i.1<=b/\i.2.1.length<=i.1/\i.2.2.length=i.2.1.length/\(∀x∈i.2.2,x.length<=1000/\∀y∈x,y.length=32)/\∀x∈i.2.1,PrT x) (λi=>b - i.1) ⟨by simp,by dsimp only;omega,by simp;omega,by simp,by simp,by simp⟩ λi hi=> ?_
 obtain⟨i1,i2,i3,i4,i5,i6⟩:=hi
 have e1:=oX (i.1+1)
 simp only[J0r_1_step,wp,Jqn l kv,Kg _ i.1 (show(J9c l).length<64 by rw[J9n];omega) (Jdj kv),List.length_append,List.length_cons,List.length_nil]
 have nx:∀x∈i.2.2++[Jdm (J9c l) i.1],x.length<=1000/\∀y∈x,y.length=32:=Jcy i5 (Keh _ _ (by rw[J9n];omega))
 have ny:i.1<l.length->∀x∈i.2.1++[l.getD i.1.toNat (([]:List UInt8),([]:List UInt8),())],PrT x:=λc=>Jcy i6 (h.2 _ (Jb0 (by omega) c _))
 have hz:PsT ((l.length:Int),a,i.2.1,i.2.2,()):=⟨⟨by dsimp only;omega,i5⟩,⟨by dsimp only;omega,i6⟩,i4⟩
 repeat' first|omega|exact nx|exact hz|exact ny (by omega)|intro _|with_reducible apply And.intro
theorem K5r(h:Jfk l)(a b:List UInt8):Ok (J3g l a b) PsT:=by
 have hl:=h.1
 simp only[J3g,wp]
 refine(Jjg (by omega)).imp λi hi=>(Jjg (by omega)).imp λj hj=> ?_
 have e1:=oX (i+1);have e2:=oX (j+1);have e3:=oX (i - 1)
 exact⟨λ_=>Joy h (by omega) (by omega),λ_=>Joy h (by omega) (by omega)⟩
def AnT(r:K0a):Prop:=Jfk r.2.2.1/\PsT r.2.2.2.1
theorem AnT.rs(h:AnT r):RsT r:=⟨by have:=h.1.1;omega,h.2.1⟩
theorem Jw9(h:x∈Ja1 l a b):x∈l:=List.mem_of_mem_take (List.mem_of_mem_drop h)
theorem K3f(l:List α) a b:(Ja1 l a b).length<=l.length:=by
 simp only[Ja1,List.length_take,List.length_drop];omega
theorem Jml(h:Jfk l) a b:Jfk (Ja1 l a b):=⟨Nat.le_trans (K3f ..) h.1,λx hx=>h.2 x (Jw9 hx)⟩
theorem Jxl(h:Jfk l)(i:Int) q (t:Int):Ok (Js i q t l) AnT:=by
 have hl:=h.1
 have lp:∀k,Ok (Js_1 l k l (l.length:Int) 0 q 0 0 0 0 () () i t ((0,0,[],[],()),()) []) (λo=>o.1=l/\Jfk o.2.2.2.2.2.2.2.2.2.2.2.2):=λk=>by
  refine Jeg (λs:Int×List Pr=>0<=s.1/\s.1<=l.length/\s.2.length<=s.1/\∀x∈s.2,PrT x) (λs=>l.length - s.1) (by simp) λs hs=> ?_
  obtain⟨i1,i2,i3,i4⟩:=hs
  have e1:=oX (s.1+1)
  simp only[Js_1_step,wp,e1,List.length_append,List.length_cons,List.length_nil]
  have ny:s.1<l.length->∀x∈s.2++[l.getD s.1.toNat (([]:List UInt8),([]:List UInt8),())],PrT x:=λc=>Jcy i4 (h.2 _ (Jb0 (by omega) c _))
  have hz:Jfk s.2:=⟨by omega,i4⟩
  repeat' first|omega|exact True.intro|exact i4|exact ny (by omega)|exact hz|intro _|with_reducible apply And.intro
 have nx:∀k,Ok (Js_1 l k l (l.length:Int) 0 q 0 0 0 0 () () i t ((0,0,[],[],()),()) []) (λo=>Ok (J3g o.1 o.2.2.1.2.1 o.2.1) λu=>AnT (o.2.2.2.2.2.2.2.2.2.1,o.2.2.2.2.2.2.2.2.2.2.1,o.2.2.2.2.2.2.2.2.2.2.2.2,u,())):=λk=>(lp k).imp λo ho=>by
  rw[ho.1];exact(K5r h _ _).imp λu hu=>⟨ho.2,hu⟩
 simp only[Js,wp]
 refine(Jjg (by omega)).imp λj hj=> ?_
 have e1:=oX (j+1)
 refine⟨λ_=>⟨λc=>⟨by omega,λ_=>⟨by omega,(Joy h hj.1 (by omega)).imp λu hu=>⟨Jml h _ _,hu⟩⟩,λ_=>nx _⟩,λ_=>nx _⟩,λ_=>nx _⟩
theorem Jsr{l:List (List Pr)}(h:∀r∈l,Jfk r)(i:Nat):Jfk (l.getD i []):=by
 rw[List.getD_eq_getElem?_getD]
 cases e:l[i]? with
 |none=>exact⟨by simp,by simp⟩
 |some x=>exact h x (List.mem_of_getElem? e)
section
variable {b : Nat} (hb : b ≤ 1000) {c : K7n} (hc : Jvw b c) {n : Nat} (hn : n ≤ 100000) {ac : List K7c} (ha : ac.length ≤ n) {H : Chn} (hH : ∀ r ∈ H.2.2.2.2.2.2.1, Jfk r) (hL : H.2.2.2.2.2.2.1.length ≤ 16)
include hb hc hn ha hH hL
theorem K73(i j now:Int):Ok (J1t i j now ac () H c.1 c.2.1 c.2.2.1 c.2.2.2.1 c.2.2.2.2.1 c.2.2.2.2.2.1 c.2.2.2.2.2.2.1 c.2.2.2.2.2.2.2.1 c.2.2.2.2.2.2.2.2.1 c.2.2.2.2.2.2.2.2.2.1 c.2.2.2.2.2.2.2.2.2.2.1 c.2.2.2.2.2.2.2.2.2.2.2.1 c.2.2.2.2.2.2.2.2.2.2.2.2.1 c.2.2.2.2.2.2.2.2.2.2.2.2.2) (λo=>o.2.1.length<=n+1/\Jvw b o.2.2):=by
 unfold J1t
 simp only[wp]
 have h0:=hc.2.2.2.1.1
 refine(Jmo hb hc.2.2.2.1 i).imp λu hu=>⟨λ_=>⟨by omega,hc⟩,λu1=>⟨λ_=>⟨by omega,hc⟩,λ_=>⟨λ_=>⟨by omega,hc⟩,λ_=>⟨λ_=>⟨by omega,hc⟩,λ_=> ?_⟩⟩⟩⟩
 have hi:=hu u1
 rw[oW,oW]
 exact⟨by omega,by omega,(Jxl (Jsr hH _) _ _ _).imp λx hx=>Jp9 hx.rs hb hc hn ha _ _⟩
end
theorem K2v{l:List Block}(h:∀b∈l,Kaz b){i:Int}(h0:0<=i)(h1:i<l.length)(d:Block):Kaz (l.getD i.toNat d):=by
 rw[List.getD_eq_getElem?_getD,List.getElem?_eq_getElem (by omega)];exact h _ (List.getElem_mem ..)
theorem K78(hb:b<=1000){c:K7n}(hc:Jvw b c){n:Nat}(hn:n<=90000){ac:List K7c}(ha:ac.length<=n){m:Nat}{H:Chn}(hC:ChnT m H)(h1:1<=H.2.2.2.2.2.1.length)(now:Int):Ok (Ju now ac () H c.1 c.2.1 c.2.2.1 c.2.2.2.1 c.2.2.2.2.1 c.2.2.2.2.2.1 c.2.2.2.2.2.2.1 c.2.2.2.2.2.2.2.1 c.2.2.2.2.2.2.2.2.1 c.2.2.2.2.2.2.2.2.2.1 c.2.2.2.2.2.2.2.2.2.2.1 c.2.2.2.2.2.2.2.2.2.2.2.1 c.2.2.2.2.2.2.2.2.2.2.2.2.1 c.2.2.2.2.2.2.2.2.2.2.2.2.2) (λo=>o.2.2.2.1.length<=n+b/\o.2.2.2.2.2.1=H/\Jvw b o.2.2.2.2.2.2):=by
 have hH:=hC.2.2.2.2.2.2.2.2
 have hl:=hC.2.2.2.2.2.1
 have hl2:=hC.2.2.2.2.2.2.1
 have lp:∀{c:K7n} (hc:Jvw b c) (e:Int) (B:Block),Ok (Ju_1 0 e (c.2.2.2.2.2.2.1.2.2.1.length:Int) 0 now ac () H c.1 c.2.1 c.2.2.1 c.2.2.2.1 c.2.2.2.2.1 c.2.2.2.2.2.1 c.2.2.2.2.2.2.1 c.2.2.2.2.2.2.2.1 c.2.2.2.2.2.2.2.2.1 c.2.2.2.2.2.2.2.2.2.1 c.2.2.2.2.2.2.2.2.2.2.1 c.2.2.2.2.2.2.2.2.2.2.2.1 c.2.2.2.2.2.2.2.2.2.2.2.2.1 c.2.2.2.2.2.2.2.2.2.2.2.2.2 B) (λo=>o.2.2.2.1.length<=n+b/\o.2.2.2.2.2.1=H/\Jvw b o.2.2.2.2.2.2):=λ{c} hc e B=>by
  have hL:=hc.2.2.2.1.1
  refine Jeg (λs:Int×Int×Int×List K7c×K7n=>0<=s.2.2.1/\s.2.2.1<=c.2.2.2.2.2.2.1.2.2.1.length/\(s.2.2.2.1.length:Int)<=n+s.2.2.1/\Jvw b s.2.2.2.2) (λs=>c.2.2.2.2.2.2.1.2.2.1.length - s.2.2.1) ⟨by simp,by simp,by dsimp only;omega,hc⟩ λs hs=> ?_
  obtain⟨i1,i2,i3,i4⟩:=hs
  have e1:=oX (s.2.2.1+1)
  simp only[Ju_1_step,wp,e1]
  refine⟨λc0=>(K52 hb i4.2.2.2.1 _).imp λu _=>⟨λ_=>⟨⟨by omega,by omega,by omega,i4⟩,by omega,by omega⟩,λ_=>(K73 hb i4 (by omega) (Nat.le_refl _) hH (by omega) _ _ _).imp λy hy=> ?_⟩,λ_=>⟨by omega,by trivial,i4⟩⟩
  repeat' first|omega|exact hy.2|intro _|with_reducible apply And.intro
 have e1:=oX ((H.2.2.2.2.2.1.length:Int) - 1)
 have e2:=J9t (n:=(c.2.2.2.2.2.1.1.length:Int) - 1) (by have:=hc.2.2.1.2.1;omega) (by have:=hc.2.2.1.2.1;omega)
 unfold Ju
 simp only[wp,e1,e2]
 have h2:=hc.2.2.1.1
 exact⟨by omega,by omega,λ_=>(Kce (K2v hC.2.2.2.2.2.2.2.1 (by omega) (by omega) _) hc.2.2.1 now).imp λu hu=>lp (c:=(c.1,c.2.1,c.2.2.1,c.2.2.2.1,c.2.2.2.2.1,u.2,c.2.2.2.2.2.2)) ⟨hc.1,hc.2.1,hu,hc.2.2.2⟩ _ _,λ_=>lp hc _ _⟩
abbrev Opt:=Int×Int×Int×List UInt8×(Int×List UInt8×List UInt8×Int×Int×Unit)×Qry×List UInt8×Unit
def TxOk(t:Int×List UInt8×List UInt8×Int×Int×Unit):Prop:=(1<=t.1/\t.1<=6)/\(1<=t.2.1.length/\t.2.1.length<=3)/\t.2.2.1.length<=8
def OpT(o:Opt):Prop:=(o.1=1->TxOk o.2.2.2.2.1)/\QT o.2.2.2.2.2.1
abbrev RW:=Int×List K7c×Unit×Chn×K7n
def RwT(m k:Nat)(w:RW):Prop:=w.2.1.length<=200*k/\(ChnT m w.2.2.2.1/\1<=w.2.2.2.1.2.2.2.2.2.1.length)/\Jvw (k+1) w.2.2.2.2
theorem wdo_ok(hm:m<=4)(hk:k<=100){ac:List K7c}{H:Chn}{c:K7n}(h:RwT m k (now,ac,(),H,c)){o:Opt}(ho:OpT o){x:K0a}{ok:Bool}(hx:ok=true->RsT x):Ok (J44 o x ok now ac () H c.1 c.2.1 c.2.2.1 c.2.2.2.1 c.2.2.2.2.1 c.2.2.2.2.2.1 c.2.2.2.2.2.2.1 c.2.2.2.2.2.2.2.1 c.2.2.2.2.2.2.2.2.1 c.2.2.2.2.2.2.2.2.2.1 c.2.2.2.2.2.2.2.2.2.2.1 c.2.2.2.2.2.2.2.2.2.2.2.1 c.2.2.2.2.2.2.2.2.2.2.2.2.1 c.2.2.2.2.2.2.2.2.2.2.2.2.2) (λr=>RwT m (k+1) r.2):=by
 obtain⟨ha,⟨hC,h1⟩,hc⟩:=h
 dsimp only at ha hC h1 hc
 have hg:RgT (k+2) c.2.2.2.2.2.2.1:=⟨by have:=hc.2.2.2.1.1;omega,hc.2.2.2.1.2⟩
 have hc':Jvw (k+2) c:=⟨hc.1,hc.2.1,hc.2.2.1,hg,hc.2.2.2.2⟩
 have ha':ac.length<=200*(k+1):=by omega
 have same:∀t,RwT m (k+1) (t,ac,(),H,c):=λt=>⟨ha',⟨hC,h1⟩,hc'⟩
 have hl:=hC.2.2.2.2.2.1
 have hl2:=hC.2.2.2.2.2.2.1
 have hcl:=hc.1.1
 unfold J44
 simp only[wp]
 refine⟨λq=>(Kd7 hC.2.2.2.1 hC.2.2.2.2.1 _ (by have:=(ho.1 q).2.1;omega)).imp λu hu=> ?_,λ_=>⟨λ_=>(K36 hm hC h1 _).imp λu hu=>⟨λ_=>⟨ha',⟨hu.1,Nat.le_trans h1 hu.2⟩,hc'⟩,λ_=>⟨ha',⟨hu.1,Nat.le_trans h1 hu.2⟩,hc'⟩⟩,λ_=>⟨λ_=>⟨λ_=>same _,λ_=>⟨λ_=>same _,λ_=>same _⟩⟩,λ_=>⟨λ_=>⟨λ_=>same _,λq1=>⟨λ_=>same _,λq2=> ?_⟩⟩,λ_=>⟨λ_=> ?_,λ_=>⟨λ_=> ?_,λ_=>⟨λ_=> ?_,λ_=>⟨λ_=> ?_,λ_=>⟨λ_=>⟨λq=> ?_,λ_=>same _⟩,λ_=>⟨λ_=> ?_,λ_=>⟨λ_=> ?_,λ_=>⟨λ_=> ?_,λ_=>⟨λ_=> ?_,λ_=>same _⟩⟩⟩⟩⟩⟩⟩⟩⟩⟩⟩⟩⟩
 ·obtain⟨d1,d2,d3,d4,d5,d6⟩:=hu
  exact⟨ha',⟨⟨d1.trans hC.1,d2.trans hC.2.1,d3.trans hC.2.2.1,d4,d5,by rw[d6];exact hC.2.2.2.2.2⟩,by show 1<=u.2.2.2.2.2.2.1.length;rw[d6];exact h1⟩,hc'⟩
 ·rw[oW]
  exact⟨by omega,(Kce (K2v hC.2.2.2.2.2.2.2.1 (by omega) (by omega) _) hc.2.2.1 now).imp λu hu=>⟨ha',⟨hC,h1⟩,hc'.1,hc'.2.1,hu,hg,hc'.2.2.2.2⟩⟩
 ·refine(K31 (calls:=c.1) ⟨by omega,hc.1.2⟩ hc.2.1 hc.2.2.2.2 (by omega) hg _ _ _ _ _ _).imp λu hu=> ?_
  obtain⟨b1,b2,b3,b4,b5,b6⟩:=hu
  exact⟨ha',⟨hC,h1⟩,⟨by simp,by simp⟩,b1,by rw[b2];exact hc.2.2.1,b6,b5⟩
 ·exact(Kes (by omega) hc.2.2.2.1 ho.2).imp λu hu=>⟨ha',⟨hC,h1⟩,hc'.1,hc'.2.1,hc'.2.2.1,hu,hc'.2.2.2.2⟩
 ·exact(K82 (by omega) hc' _).imp λu hu=>⟨ha',⟨hC,h1⟩,hc'.1,hc'.2.1,hc'.2.2.1,hu,hc'.2.2.2.2⟩
 ·exact(K73 (by omega) hc' (by omega) (Nat.le_refl _) hC.2.2.2.2.2.2.2.2 (by omega) _ _ _).imp λu hu=>⟨by have:=hu.1;dsimp only;omega,⟨hC,h1⟩,hu.2⟩
 ·exact(Jp9 (hx q) (by omega) hc' (by omega) (Nat.le_refl _) _ _).imp λu hu=>⟨by have:=hu.1;dsimp only;omega,⟨hC,h1⟩,hu.2⟩
 ·exact(Ka7 hc.2.2.2.2 _ _ _).imp λu hu=>⟨ha',⟨hC,h1⟩,hc'.1,hc'.2.1,hc'.2.2.1,hg,hu⟩
 ·exact(K1r hc.2.2.2.2 _ _ _).imp λu hu=>⟨ha',⟨hC,h1⟩,hc'.1,hc'.2.1,hc'.2.2.1,hg,hu⟩
 ·exact(K86 _ _ c).imp λu hu=>same _
 ·exact(K78 (by omega) hc' (by omega) (Nat.le_refl _) hC h1 now).imp λu hu=>⟨by have:=hu.1;dsimp only;omega,by rw[hu.2.1];exact⟨hC,h1⟩,hu.2.2⟩
theorem J9a(a:Int)(h:lo<=hi:=by omega)(h1: -1099511627776<=lo:=by omega)(h2:hi<=1099511627776:=by omega):Ok (J6 a lo hi) (λr=>lo<=r/\r<=hi):=by
 obtain⟨r,e,h⟩:=Jkh a lo hi h h1 h2;exact Ok.eq e h
theorem Jie(n:Int):Ok (J30 n) (λr=>1<=r.length/\r.length<=3):=by
 obtain⟨i,hi,e⟩:=Ke2 n
 have:∀i,i<12->1<=(Jnq.getD i []).length/\(Jnq.getD i []).length<=3:=by decide
 exact Ok.eq e (this i hi)
theorem Jy0(n:Int):Ok (J3p n) (λr=>r.length<=8):=by
 obtain⟨x,e,h⟩:=K99 n;exact Ok.eq e h
theorem ktx_ok k:Ok (J6c k) TxOk:=by
 have g4:∀i:Int,0<=i->i<=3->1<=(([[118,97],[118,98],[118,99],[118,100]]:List (List UInt8)).getD i.toNat []).length/\(([[118,97],[118,98],[118,99],[118,100]]:List (List UInt8)).getD i.toNat []).length<=3:=λi h0 h1=>(by decide:∀x∈([[118,97],[118,98],[118,99],[118,100]]:List (List UInt8)),1<=x.length/\x.length<=3) _ (Jb0 h0 (by simp;omega) _)
 have g3:∀i:Int,0<=i->i<=2->1<=(([[97],[98],[99]]:List (List UInt8)).getD i.toNat []).length/\(([[97],[98],[99]]:List (List UInt8)).getD i.toNat []).length<=3:=λi h0 h1=>(by decide:∀x∈([[97],[98],[99]]:List (List UInt8)),1<=x.length/\x.length<=3) _ (Jb0 h0 (by simp;omega) _)
 simp only[J6c,J54,wp]
 refine(J9a _).imp λa ha=>(J9a _).imp λb _=>(J9a _).imp λd _=>⟨λ_=>(Jie _).imp λx hx=>(Jy0 _).imp λy hy=>⟨ha,hx,hy⟩,λ_=>⟨λ_=>(Jie _).imp λx hx=>⟨ha,hx,by simp⟩,λ_=>⟨λ_=>(J9a _).imp λi hi=>⟨?_,(J9a _).imp λj _=>⟨ha,g4 i (by omega) (by omega),by simp⟩⟩,λ_=>(J9a _).imp λi hi=>⟨?_,ha,g3 i (by omega) (by omega),by simp⟩⟩⟩⟩
 all_goals (simp;omega)
theorem Jwz k:Ok (J15 k) QT:=by
 simp only[J15,wp]
 have z:∀a b:Int,QT (2,[115,47],[115,48],a,b,()):=λa b=>⟨by simp,by simp⟩
 have q:∀{a b:List UInt8} (i j k:Int),a.length<=3->b.length<=3->QT (i,a,b,j,k,()):=λi j k h1 h2=>⟨by dsimp only;omega,by dsimp only;omega⟩
 exact(Jie _).imp λx hx=>(J9a _).imp λb _=>(J9a _).imp λd _=>⟨λ_=>(Jie _).imp λy hy=>⟨λ_=>⟨λ_=>z _ _,λ_=>q _ _ _ hy.2 hx.2⟩,λ_=>⟨λ_=>z _ _,λ_=>q _ _ _ hx.2 hy.2⟩⟩,λ_=>⟨λ_=>z _ _,λ_=>q _ _ _ hx.2 (by simp)⟩⟩
def TnT(r:K0a):Prop:=Jfk r.2.2.1/\PfT r.2.2.2.1/\Jfk r.2.2.2.1.2.2.1
theorem Kc(h:Jfk l){i:Int}(h0:0<=i)(h1:i<l.length){v:List UInt8}(hv:v.length<=8)(d:Pr):Jfk (l.set i.toNat ((l.getD i.toNat d).1,v,())):=⟨by rw[List.length_set];exact h.1,λx hx=>by
 rcases List.mem_or_eq_of_mem_set hx with hx|rfl
 ·exact h.2 x hx
 ·exact⟨(h.2 _ (Jb0 h0 h1 d)).1,by dsimp only;omega⟩⟩
theorem K5e(h:PfT p) a b x y u v:PfT (x,y,Ja1 p.2.2.1 a b,Ja1 p.2.2.2.1 u v,()):=⟨Nat.le_trans (K3f ..) h.1,λx hx=>h.2 x (Jw9 hx)⟩
theorem K98{r o:K0a}(hr:AnT r)(ho:AnT o)(how ix by':Int):Ok (J3j r o how ix by') TnT:=by
 obtain⟨r1,r2,r3,r4⟩:=hr
 obtain⟨o1,o2,o3,o4⟩:=ho
 have b1:=r1.1;have b2:=r3.1;have r5:=r2.2
 have e1:=oX ((r.2.2.1.length:Int) - 1)
 have e2:=oX ((r.2.2.2.1.2.2.1.length:Int) - 1)
 have z:∀(a b x y:Int),TnT (a,b,r.2.2.1,(x,y,r.2.2.2.1.2.2.1,r.2.2.2.1.2.2.2.1,()),()):=λa b x y=>⟨r1,⟨by dsimp only;omega,r5⟩,r3⟩
 simp only[J3j,wp,List.nil_append,List.length_nil]
 refine⟨by omega,by omega,by omega,(J9a _).imp λa _=>⟨λ_=>⟨o1,⟨by dsimp only;omega,r5⟩,r3⟩,λ_=>⟨λ_=>⟨r1,o2,o3⟩,λ_=>⟨λ_=>⟨λ_=>(J9a _).imp λi hi=>(Jy0 _).imp λv hv=>⟨by omega,Kc r1 (by omega) (by omega) hv _,⟨by dsimp only;omega,r5⟩,r3⟩,λ_=>z _ _ _ _⟩,λ_=>⟨λ_=>⟨λ_=>⟨by omega,Jml r1 _ _,⟨by dsimp only;omega,r5⟩,r3⟩,λ_=>z _ _ _ _⟩,λ_=>⟨λ_=>⟨λ_=>(J9a _).imp λi hi=>(Jy0 _).imp λv hv=>⟨by omega,r1,⟨by simp;omega,r5⟩,Kc r3 (by omega) (by omega) hv _⟩,λ_=>z _ _ _ _⟩,λ_=>⟨λ_=>⟨λ_=>⟨by omega,by omega,r1,K5e r2 _ _ _ _ _ _,Jml r3 _ _⟩,λ_=>z _ _ _ _⟩,λ_=>⟨λ_=>⟨λ_=>⟨by omega,by omega,r1,K5e r2 _ _ _ _ _ _,Jml r3 _ _⟩,λ_=>z _ _ _ _⟩,λ_=>⟨λ_=>(J9a _).imp λi hi=>z _ _ _ _,λ_=>⟨λ_=>(J9a _).imp λi hi=>z _ _ _ _,λ_=>⟨λ_=>(J9a _).imp λi hi=>z _ _ _ _,λ_=>z _ _ _ _⟩⟩⟩⟩⟩⟩⟩⟩⟩⟩⟩
theorem Joj(n:Int):Ok (Jl n) (λr=>r.length<=7):=Ok.eq (Jex n) (J9o n)
theorem K4l(h:PrT p):Ok (J29 p) (λr=>r.length<=200100):=Ok.eq (Jsi p ⟨by have:=h.1;omega,by have:=h.2;omega⟩) (Jjn ⟨by have:=h.1;omega,by have:=h.2;omega⟩)
theorem K4e(h:TnT r):Ok (Jh r) (λb=>b.length<=100000000):=by
 obtain⟨r1,r2,r3⟩:=h
 have l1:=r1.1;have l3:=r3.1
 simp only[Jh,Jh_1,Jh_3,wp,List.length_append]
 refine⟨λ_=>by simp,λ_=>⟨λ_=>by simp,λ_=>⟨λ_=>by simp,λ_=>⟨λ_=>by simp,λ_=>⟨λ_=>by simp,λq=>(Joj _).imp λa ha=>(Joj _).imp λb hb=>⟨by omega,(Joj _).imp λc hc=>⟨by omega, ?_⟩⟩⟩⟩⟩⟩⟩
 refine(Jeg (Q:=λo:K0a×List UInt8=>o.1=r/\o.2.length<=10000000) (λs:Int×List UInt8=>0<=s.1/\s.1<=r.2.2.1.length/\s.2.length<=30+200100*s.1) (λs=>r.2.2.1.length - s.1) ⟨by simp,by simp,by simp only[List.length_append];omega⟩ λs hs=> ?_).imp λo ho=> ?_
 ·have e1:=oX (s.1+1)
  simp only[Jh_1_step,wp,e1,List.length_append]
  exact⟨λc=>⟨by omega,(K4l (r1.2 _ (Jb0 (by omega) c _))).imp λu hu=>by omega⟩,λ_=>⟨by trivial,by omega⟩⟩
 ·obtain⟨o1,o2⟩:=ho
  simp only[o1]
  refine(Joj _).imp λa ha=>⟨by omega,(Joj _).imp λb hb=>⟨by omega,(Joj _).imp λc hc=>⟨by omega, ?_⟩⟩⟩
  refine Jeg (λs:List Pr×Int×Int×K0a×List UInt8=>s.1=r.2.2.2.1.2.2.1/\s.2.1=r.2.2.2.1.2.2.1.length/\0<=s.2.2.1/\s.2.2.1<=r.2.2.2.1.2.2.1.length/\s.2.2.2.1=r/\s.2.2.2.2.length<=10000100+300000*s.2.2.1) (λs=>r.2.2.2.1.2.2.1.length - s.2.2.1) ⟨by trivial,by trivial,by simp,by simp,by trivial,by simp only[List.length_append];omega⟩ λs hs=> ?_
  obtain⟨i1,i2,i3,i4,i5,i6⟩:=hs
  have e1:=oX (s.2.2.1+1)
  simp only[Jh_3_step,Jh_2,wp,i1,i2,i5,List.length_append]
  refine⟨λc=>⟨by omega,(K4l (r3.2 _ (Jb0 (by omega) c _))).imp λu hu=>⟨by omega,by omega,(Joj _).imp λv hv=>⟨by omega, ?_⟩⟩⟩,λ_=>by omega⟩
  have hp:=r2.2 _ (Jb0 (i:=s.2.2.1) (by omega) (by omega) [])
  generalize r.2.2.2.1.2.2.2.1.getD _ _=p at hp
  refine(Jeg (Q:=λo:List Pr×Int×Int×K0a×List UInt8=>o.1=r.2.2.2.1.2.2.1/\o.2.1=r.2.2.2.1.2.2.1.length/\o.2.2.1=s.2.2.1/\o.2.2.2.1=r/\o.2.2.2.2.length<=10000100+300000*(s.2.2.1+1)) (λt:Int×List UInt8=>0<=t.1/\t.1<=p.length/\t.2.length<=10200300+300000*s.2.2.1+32*t.1) (λt=>p.length - t.1) ⟨by simp,by simp,by simp only[List.length_append];omega⟩ λt ht=> ?_).imp λo ho=> ?_
  ·obtain⟨t1,t2,t3⟩:=ht
   have e2:=oX (t.1+1)
   simp only[Jh_2_step,wp,e2,List.length_append]
   refine⟨λc=> ?_,λ_=>⟨by trivial,by trivial,by trivial,by trivial,by omega⟩⟩
   have:=hp.2 _ (Jb0 t1 c (List.replicate 32 (0:UInt8)))
   omega
  ·obtain⟨o1,o2,o3,o4,o5⟩:=ho
   rw[o3,e1]
   exact⟨⟨o1,o2,by omega,by omega,o4,o5⟩,by omega,by omega⟩
theorem band1(a:Int):0<=Jpe a 1/\Jpe a 1<2:=by
 unfold Jpe
 have h:(BitVec.ofInt 64 a&&& BitVec.ofInt 64 1).toNat<=1:=by rw[BitVec.toNat_and];exact Nat.and_le_right
 generalize (BitVec.ofInt 64 a&&& BitVec.ofInt 64 1).toNat=m at*
 show 0<=w64 (m:Int)/\w64 (m:Int)<2
 rw[oW];omega
def OqT(o:Opt):Prop:=OpT o/\(1<=o.1/\o.1<=13)/\o.2.2.2.2.2.2.1.length<=100000000
theorem kop_ok(hC:ChnT m H)(h1:1<=H.2.2.2.2.2.1.length)(hb:b<=1000)(hc:Jvw b c) p (now:Int) ac:Ok (J52 p now ac () H c.1 c.2.1 c.2.2.1 c.2.2.2.1 c.2.2.2.2.1 c.2.2.2.2.2.1 c.2.2.2.2.2.2.1 c.2.2.2.2.2.2.2.1 c.2.2.2.2.2.2.2.2.1 c.2.2.2.2.2.2.2.2.2.1 c.2.2.2.2.2.2.2.2.2.2.1 c.2.2.2.2.2.2.2.2.2.2.2.1 c.2.2.2.2.2.2.2.2.2.2.2.2.1 c.2.2.2.2.2.2.2.2.2.2.2.2.2) OqT:=by
 have z:∀{a:Int} (b c:Int) (d:List UInt8),¬a=1->1<=a/\a<=13->OqT (a,b,c,d,(0,[],[],0,0,()),(0,[],[],0,0,()),[],()):=λb c d h1 h2=>⟨⟨λh=>absurd h h1,by simp,by simp⟩,h2,by simp⟩
 have hl:=hC.2.2.2.2.2.1
 have hl2:=hC.2.2.2.2.2.2.1
 have hb2:=hc.2.2.2.1.1
 have hB:=band1 p.2.2.1
 have e1:=oX ((c.2.2.2.2.2.2.1.2.2.1.length:Int)+1)
 have e2:=oX ((H.2.2.2.2.2.1.length:Int) - 1)
 have fin:∀{k:Int} (i:Int) (q:Qry),¬k=1->1<=k/\k<=13->Ok (Js i q (H.2.2.2.2.2.1.length:Int) (H.2.2.2.2.2.2.1.getD ((H.2.2.2.2.2.1.length:Int) - 1).toNat [])) λa=>Ok (J15 p.2.2.2.2.2.2.2.1) λu=>Ok (Js i u (H.2.2.2.2.2.1.length:Int) (H.2.2.2.2.2.2.1.getD ((H.2.2.2.2.2.1.length:Int) - 1).toNat [])) λv=>Ok (J3j a v p.2.2.2.1 p.2.2.2.2.1 p.2.2.1) λx=>Ok (Jh x) λy=>OqT (k,0,0,[],(0,[],[],0,0,()),(0,[],[],0,0,()),y,()):=λi q k1 k2=>
  (Jxl (Jsr hC.2.2.2.2.2.2.2.2 _) _ _ _).imp λa ha=>(Jwz _).imp λu _=>(Jxl (Jsr hC.2.2.2.2.2.2.2.2 _) _ _ _).imp λv hv=>(K98 ha hv _ _ _).imp λx hx=>(K4e hx).imp λy hy=>⟨⟨λh=>absurd h k1,by simp,by simp⟩,k2,hy⟩
 unfold J52
 have e0:w64 (((0+1+1+1+1+1+1+1+1+1+1+1+1+1+1+1+1+1+1+1+1+1+1+1+1:Nat):Int) - 1)=23:=by decide
 simp only[wp,List.length_cons,List.length_nil,e1,e2]
 refine(J9a _).imp λk hk=>⟨?_,(J9a _).imp λi hi=> ?_⟩
 ·omega
 have e3:=oX (i - 1)
 have hg:∀x∈([1,1,1,2,2,3,4,4,5,5,5,6,7,8,8,8,9,9,10,10,11,12,13,13]:List Int),1<=x/\x<=13:=by decide
 have hg:=hg _ (Jb0 hk.1 (by simp;omega) 0)
 exact⟨λ_=>(ktx_ok _).imp λt ht=>⟨⟨λ_=>ht,by simp,by simp⟩,hg,by simp⟩,λg1=>⟨λ_=>⟨by omega,(J9a _).imp λ_ _=>z _ _ _ g1 hg⟩,λ_=>⟨λ_=>(J9a _).imp λ_ _=>z _ _ _ g1 hg,λ_=>⟨λ_=>(J9a _).imp λ_ _=>z _ _ _ g1 hg,λ_=>⟨λ_=>(Jwz _).imp λq hq=>⟨⟨λh=>absurd h g1,hq⟩,hg,by simp⟩,λ_=>⟨λ_=>z _ _ _ g1 hg,λ_=>⟨λ_=>(J9a _).imp λ_ _=>z _ _ _ g1 hg,λ_=>⟨λ_=>(Jwz _).imp λq hq=>(Jmo hb hc.2.2.2.1 i).imp λu hu=>⟨λq=>⟨by have:=hu q;omega,by omega,fin _ _ g1 hg⟩,λ_=>⟨by omega,fin _ _ g1 hg⟩⟩,λ_=>⟨λ_=>⟨by omega,(J9a _).imp λ_ _=>z _ _ _ g1 hg⟩,λ_=>⟨λ_=>⟨by omega,(J9a _).imp λ_ _=>z _ _ _ g1 hg⟩,λ_=>⟨λ_=>(J9a _).imp λ_ _=>z _ _ _ g1 hg,λ_=>z _ _ _ g1 hg⟩⟩⟩⟩⟩⟩⟩⟩⟩⟩⟩
def l1:List Pr:=[([97],[49],())]
def q1:Qry:=(1,[97],[],0,1,())
theorem Jok l k:Jcp l k k=[]:=by
 unfold Jcp
 rw[List.filter_eq_nil_iff]
 intro p _
 unfold inR
 cases J97 p.1 k<;>simp
def K29(l:List Pr):Prop:=Jb6 l/\l.length<=12/\Jy9 l/\Jcd l=true
theorem row_G(h:K7o l):K29 l:=⟨h.1,h.2.1,row_kv h,K64 h⟩
theorem Jmw(id:Int) q (h:Int) l (hrow:K29 l):Jm0 (Jm7 id q h l).2.2.2.1/\(Jm7 id q h l).2.2.1.length<=12/\Jcd (Jm7 id q h l).2.2.1=true/\(Jm7 id q h l).1=id/\(Jm7 id q h l).2.1=h:=by
 have hk:=hrow.2.2.1
 have hl:=hrow.2.1
 have hrt:=hrow.2.2.2
 unfold Jm7
 split
 ·rename_i c
  have:=(Jeu c.2).1
  have hs:[l.getD (J8o l q.2.1) zPr].Sublist l:=List.singleton_sublist.2 (Jae this)
  exact⟨Jmn l hk _ _ (by omega),by simp,Jor hrt hs,rfl,rfl⟩
 ·exact⟨Jmn l hk _ _ (by omega),Nat.le_trans (List.length_filter_le _ _) hl,Jor hrt List.filter_sublist,rfl,rfl⟩
theorem Kcu(hrow:K29 l)(hq:q.1=1\/q.1=2) id h (h1:1<=h/\h<=16):Kct (Jm7 id q h l)=true/\admS q (Jcu l) (Jm7 id q h l)=0:=by
 have hk:=hrow.2.2.1
 have hrt:=hrow.2.2.2
 have hr:=hrow.1
 obtain⟨o1,o2,o3,o4,o5⟩:=Jmw id q h l hrow
 have hR:Kct (Jm7 id q h l)=true:=by
  unfold Kct
  grind
 refine⟨hR, ?_⟩
 unfold admS
 rw[hR,if_pos rfl]
 rcases hq with c|c
 ·rw [oJ]
  cases ha:Ji5 l q.2.1 with
  | true=>
   obtain⟨q1,q2⟩:=Jeu ha
   have e:Jm7 id q h l=(id,h,[l.getD (J8o l q.2.1) zPr],Jbb l (J8o l q.2.1) (J8o l q.2.1+1),()):=by unfold Jm7;rw[if_pos ⟨c,ha⟩]
   rw[e]
   dsimp only
   have he:Jpz (Jcu l) (l.getD (J8o l q.2.1) zPr) (Jbb l (J8o l q.2.1) (J8o l q.2.1+1))=true:=by
    unfold Jpz
    rw[Jqo l hrt _ _ (by omega),decide_eq_true (show J8o l q.2.1<J8o l q.2.1+1 by omega),Bool.or_true,Bool.true_and,decide_eq_true_eq,K6i l q1]
   grind
  | false=>
   have e:Jm7 id q h l=(id,h,Jcp l q.2.1 q.2.1,Jbb l (J8o l q.2.1 - 1) (min (J8o l (maxS q.2.1 q.2.1)+1) l.length),()):=by
    unfold Jm7 endQ;rw[if_neg (λh=>by rw[ha]at h;cases h.2),if_pos c]
   have hA:absS (Jcu l) q.2.1 (Jbb l (J8o l q.2.1 - 1) (min (J8o l (maxS q.2.1 q.2.1)+1) l.length))=true:=by
    unfold absS
    rw[Jlo l hrt,Bool.true_and,Bool.not_eq_true',<-Bool.not_eq_true]
    intro hat
    obtain⟨z1,z2⟩:=Jeu hat
    have hm:=Jae (z:=zPr) z1
    generalize (Jbb l (J8o l q.2.1 - 1) (min (J8o l (maxS q.2.1 q.2.1)+1) l.length)).2.2.1.getD (J8o (Jbb l (J8o l q.2.1 - 1) (min (J8o l (maxS q.2.1 q.2.1)+1) l.length)).2.2.1 q.2.1) zPr=u at hm z2
    have hm2:u∈l:=by
     unfold Jbb at hm
     grind
    rw[(Jza hr q.2.1).2 ⟨u,hm2,z2⟩]at ha;cases ha
   rw[e]
   dsimp only
   rw[Jok,if_pos (by rfl),hA];rfl
 ·rw[if_pos c]
  have e:Jm7 id q h l=(id,h,Jcp l q.2.1 q.2.2.1,Jbb l (J8o l q.2.1 - 1) (min (J8o l (maxS q.2.1 q.2.2.1)+1) l.length),()):=by
   unfold Jm7 endQ;rw[oJ,oJ]
  rw[e]
  dsimp only
  rw[Jlo l hrt,decide_eq_true rfl];rfl
theorem K0e(hrow:K29 l)(hq:q.1=1\/q.1=2) id h (h1:1<=h/\h<=16):J6k (Jm7 id q h l)=some true/\J72 q (Jcu l) (Jm7 id q h l)=some 0:=by
 obtain⟨a,b,c,d,e⟩:=Jmw id q h l hrow
 obtain⟨r,s⟩:=Kcu hrow hq id h h1
 exact⟨by rw[Jij _ (by omega),r],by rw[Jmu _ _ _ a (by omega),s]⟩
theorem Kcv(hrow:K29 l)(hq:q.1=1\/q.1=2) id h:J7c id q h l=some (Jm7 id q h l):=by
 have hk:=hrow.2.2.1
 have hr:=hrow.1
 have hl:=hrow.2.1
 unfold J7c
 rcases hq with c|c
 ·rw[oF,Jyy l hk hr,J8f]
  cases ha:Ji5 l q.2.1 with
  |true=>
   rw[if_pos rfl]
   rw[Jbz,Jfx l hr (by omega),J8f,ha,if_pos rfl]
   unfold Jm7
   dsimp only
   have:=(Jeu ha).2
   grind
  |false=>
   rw[if_neg (by simp)]
   dsimp only
   rw[J8y,Jtj l hk hr,J8f,ha,if_neg (by simp)]
   unfold Jm7 endQ
   rw[if_neg (λh=>by rw[ha]at h;cases h.2),if_pos c,Jok,Juq]
 ·rw[J8w c,Jky l hr (by omega),J8f,Jsj l hk hr,J8f]
  unfold Jm7 endQ
  grind
abbrev Jd5:=Int×Int×List Pr×Unit
def Kci:Jd5:=(0,0,[],())
def Jd7(c:Jd5):Prop:=c.2.2.1.length<=1000
theorem Jn2(x0:Int)(x1:Int) x2:J1e_1_step x0 x1 x2=
  (J8g (decide (x1<x0)) (need (0<=x1/\x1<(List.length x2:Int)) (J8e (Ji ((List.getD x2 (Int.toNat x1) Kci).2.2.1)) (λu6=>some (.inl ((w64 (x1+(1:Int))),(List.set x2 (Int.toNat x1) ((List.getD x2 (Int.toNat x1) Kci).1,(List.getD x2 (Int.toNat x1) Kci).2.1,u6,()))))))) (some (.inr x2)):Option ((Int×List Jd5)⊕List Jd5)):=rfl
theorem Kai(l:List α)(i:Nat) z:l.set i (l.getD i z)=l:=by
 by_cases h:i<l.length
 ·simp_all
 ·rw[List.set_eq_of_length_le (by omega)]
theorem Jrd(l:List Jd5)(hl:l.length<=1000)(h:∀c∈l,Jd7 c):J1e l=some l:=by
 have m:J1e_1 (l.length:Int) 0 l=some l:=by
  refine J8u (step:=λ(s:Int×List Jd5)=>J1e_1_step (l.length:Int) s.1 s.2) (λi (_:Unit)=>((i:Int),l)) (λ_ _=>()) (λ_=>l) l.length (λ_ _=>True) (λi w hi _=>⟨?_,trivial⟩) (λw _=> ?_) l.length 0 () (by omega) trivial
  ·show J1e_1_step (l.length:Int) (i:Int) l=_
   have hc:=h _ (Jae (z:=Kci) hi)
   unfold Jd7 at hc
   rw[Jn2,oT,oN,Int.toNat_natCast]
   unfold Ji
   rw[oN,J8f,oW]
   rw[Kai]
   rfl
  ·rw[Jn2,oF]
 unfold J1e J5p
 rw[oN,J8f,m]
 rfl
theorem pushG c (l:List Jd5) (hl:l.length<8) (hc:Jd7 c) (h:∀c∈l,Jd7 c):J5a [c] (l,())=some (1,(),l++[c]):=by
 unfold J5a J2m
 rw[J8f,Jrd l (by omega) h,J8f]
 dsimp only
 rw[oW,show(([c].length:Nat):Int)=1 from rfl,show min (1:Int) (8 - (l.length:Int))=1 from by omega,oN]
 rw[show Ja1 [c] (0:Int) 1=[c]from rfl,Jrd [c] (by simp) (by simpa using hc),J8f,J8i (by simp;omega)]
theorem roomG(l:List Jd5)(hl:l.length<=8):J2m (l,())=some (8 - (l.length:Int)):=by
 unfold J2m
 dsimp only
 rw[oW]
theorem popG c (l:List Jd5) (hl:l.length<=1000):J2a (c::l,())=some (c,true,(l,())):=by
 unfold J2a
 rw[J90 (by rw[List.length_cons];omega),J8i (by rw[List.length_cons];omega),J8i (by rw[List.length_cons];omega)]
 unfold Ja1
 simp_all
theorem popG0:J2a (([]:List Jd5),())=some (Kci,false,([],())):=rfl
section
variable (n : Nat) (p : Nat → Int) (f : Nat → Int) (R : List (List Pr))
noncomputable def hdK(j:Nat):List Hdr:=Jiu ((List.range j).map (hL n p f R))
noncomputable def Ji9(T:Int)(j:Nat):Cli:=(hdK n p f R j,J8s p n,T,false,())
theorem Jkw(j:Nat):(hdK n p f R j).length=min j 6:=by unfold hdK;rw[Jjm];simp
theorem K8x l (h:j<=R.length):hdK n p f (R++[l]) j=hdK n p f R j:=by
 unfold hdK
 congr 1
 refine List.map_congr_left λi hi=>Kdv n p f R l ?_
 grind
theorem K33 l (T:Int) (h:j<=R.length):Ji9 n p f (R++[l]) T j=Ji9 n p f R T j:=by unfold Ji9;rw[K8x n p f R l h]
theorem Jz7(j:Nat):hdK n p f R (j+1)=K3b (hdK n p f R j++[hL n p f R j]):=by
 unfold hdK
 rw[List.range_succ,List.map_append,List.map_singleton,Jqb]
 unfold K3b
 grind
theorem Js0(h:1<=j) x:lastH (hdK n p f R j,x)=hL n p f R (j - 1):=by
 obtain⟨i,rfl⟩:∃i,j=i+1:=⟨j - 1,by omega⟩
 rw[Jz7]
 by_cases c:1<=(hdK n p f R i).length
 ·rw[K4j _ _ _ c];rfl
 ·have:hdK n p f R i=[]:=List.eq_nil_of_length_eq_zero (by omega)
  rw[this];rfl
theorem Kbn(h:1<=j)(T:Int):Knows (J8s p n) T (hL n p f R (j - 1)) (Ji9 n p f R T j):=
 ⟨by show 1<=(hdK n p f R j).length;rw[Jkw];omega,by show(hdK n p f R j).length<=1000;rw[Jkw];omega,Js0 n p f R h _,rfl,rfl,rfl⟩
end
section
variable {n : Nat} {p : Nat → Int} {f : Nat → Int} {R : List (List Pr)}
theorem Kg1(hp:Jkn p)(h1:1<=n)(hn:n<=4)(hR:R.length<=16)(hf:Jms R.length f)(hj:1<=j/\j<R.length) T now (hnow:0<=now/\now<=1099511627776) (q1:¬T<now - f (j - 1)) (q2:f j<=now):
  J2x (gL n p f R j) now (Ji9 n p f R T j)=some (0,Ji9 n p f R T (j+1)):=by
 have hk:=Kbn n p f R hj.1 T
 rw[show gL n p f R j=sgB n (rR R) (λ_=>p) f j (λ_=>true)from Kdq _ _ _ _ _]
 rw[Kcd _ _ _ (sgB_ok hn (λ_=>p) f (by omega) (K5l R j) _) (Kba (r:=rR R) (m:=R.length) hn (λ_=>hp) hR hf (by omega) hk) (by omega)]
 rw[Kg2 (m:=R.length) h1 hn (λ_=>hp) hR hf (by omega) hj.2 hk now (λ_=>true) q1 (by omega)]
 have hw:=Ken (p:=pB (λ_=>p) j) (pB_ok (λ_=>hp) _) _ (K9v h1)
 rw[Jrx,oJ,oJ]
 rw[show(Ji9 n p f R T j).1=hdK n p f R j from rfl]
 rw[show hG n (rR R) (λk=>J8s p n) f j=hL n p f R j from rfl,<-Jz7]
 rfl
theorem expG(hp:Jkn p)(hn:n<=4)(hR:R.length<=16)(hf:Jms R.length f)(hj:1<=j/\j<=R.length) T now (hnow:0<=now/\now<=1099511627776):
  J13 now (Ji9 n p f R T j)=some (decide (T<now - f (j - 1))):=by
 rw[Jkv _ _ (Kba (r:=rR R) (m:=R.length) hn (λ_=>hp) hR hf (by omega) (Kbn n p f R hj.1 T)) (by omega)]
 rw[show lastH (Ji9 n p f R T j)=hL n p f R (j - 1)from Js0 n p f R hj.1 _,show(hL n p f R (j - 1)).2.1=f (j - 1)from hG_t _ _ _ _ _]
 rfl
theorem latG(hj:1<=j) x v:J3s x (hdK n p f R j) v=some (hL n p f R (j - 1)):=by
 have hl:=Jkw n p f R j
 have:=Js0 n p f R hj (v,x)
 unfold J3s
 rw[oW,oN,show(((hdK n p f R j).length:Int) - 1).toNat=(hdK n p f R j).length - 1 from by omega]
 exact congrArg some this
theorem Jsu(x0:Int) x1 (x2:Int) (x3:Int) x4 x5:Jy_1_step x0 x1 x2 x3 x4 x5=
  (J8g (decide (x3<x2)) (need (0<=x3/\x3<(List.length x1:Int)) (J8g (decide ((List.getD x1 (Int.toNat x3) Jy6).1=x0)) (some (.inr (.inl (true,x4,(List.getD x1 (Int.toNat x3) Jy6).2.2.1)))) (some (.inl (w64 (x3+(1:Int))))))) (some (.inr (.inr (x4,x5)))):Option ((Int)⊕((Bool×((List Hdr)×(List Val)×Int×Bool×Unit)×List UInt8)⊕(((List Hdr)×(List Val)×Int×Bool×Unit)×List UInt8)))):=rfl
theorem Kf4(x:Int)(l:List Hdr) y (hl:l.length<=1000) (hk:k<l.length) (hx:(l.getD k Jy6).1=x) (hne:∀i,i<k->(l.getD i Jy6).1≠x):
  Jy x (l,y)=some ((l.getD k Jy6).2.2.1,true,(l,y)):=by
 have m:Jy_1 x l (l.length:Int) 0 (l,y) (List.replicate 32 0)=some (scan (λi=>if(l.getD i Jy6).1=x then some (.inl (true,(l,y),(l.getD i Jy6).2.2.1))else none) (.inr ((l,y),List.replicate 32 0)) 0 l.length):=by
  refine Jca (step:=λ(s:Int)=>Jy_1_step x l (l.length:Int) s (l,y) (List.replicate 32 0)) (λi=>(i:Int)) _ _ l.length (λi hi q=> ?_) (λi r hi q=> ?_) ?_ l.length 0 (by omega)
  ·rw[Jsu,oT,oN,Int.toNat_natCast,oW]
   by_cases e:(l.getD i Jy6).1=x
   ·rw[if_pos e]at q;cases q
   ·rw[J90 e];rfl
  ·rw[Jsu,oT,oN,Int.toNat_natCast]
   by_cases e:(l.getD i Jy6).1=x
   ·rw[if_pos e]at q;injection q with q;subst q;rw[J8w e]
   ·rw[if_neg e]at q;cases q
  ·rw[Jsu,oF]
 unfold Jy
 dsimp only
 rw[m,J8f,Je6 (bad:=λi=>if(l.getD i Jy6).1=x then some (Sum.inl (true,(l,y),(l.getD i Jy6).2.2.1))else none) l.length 0 k (Nat.zero_le _) (by omega) (λj _ hj=>if_neg (hne j hj)) (if_pos hx)]
theorem rootG(T:Int){h:Nat}(hh:j - 6<=h/\h<j):Jy ((h:Int)+1) (Ji9 n p f R T j)=some (rR R h,true,Ji9 n p f R T j):=by
 have hl:=Jkw n p f R j
 have hg:∀i,i<min j 6->(hdK n p f R j).getD i Jy6=hL n p f R (j - min j 6+i):=λi hi=>by
  unfold hdK Jiu
  grind
 have hone:∀i,(hL n p f R i).1=(i:Int)+1:=λi=>Kdt _ _ _ _ _
 have:=Kf4 ((h:Int)+1) (hdK n p f R j) (J8s p n,T,false,()) (by omega) (k:=h - (j - min j 6)) (by omega) (by rw[hg _ (by omega),hone];omega) (λi hi=>by rw[hg _ (by omega),hone];omega)
 rw[hg _ (by omega)]at this
 rw[show j - min j 6+(h - (j - min j 6))=h from by omega]at this
 unfold Ji9
 rw[this]
 rw[show(hL n p f R h).2.2.1=rR R h from Kdu _ _ _ _ _]
end
abbrev Ce:=Jd5×Int×Unit
def zCe:Ce:=(Kci,0,())
def Jkz(e:List (Int×Ce))(id:Int):Int:=((J8q ib id e).getD zCe).1.2.1
theorem clastG(id:Int) e:J58 id () e=some (Jkz e id):=rfl
theorem putG(c:Jd5)(b:Int)(e:List (Int×Ce))(h1:1<=c.2.1)(hb:0<=b)(hl:Jkz e c.1<c.2.1)(hc:Jd7 c)(hf:(J8q ib c.1 e).isSome=true\/e.length<6):
  J48 c b () e=some (0,J91 ib c.1 (c,b,()) e):=by
 have hcc:J2o c=some c:=by
  unfold J2o Ji
  unfold Jd7 at hc
  rw[oN];rfl
 unfold Jkz at hl
 unfold J48
 rw[hcc]
 rw[oF,oF]
 cases hs:(J8q ib c.1 e).isSome with
 | true=>
  rw[Jbz,J90 (by
   have:¬c.2.1<=((J8q ib c.1 e).getD zCe).1.2.1:=by omega
   exact this)]
  rfl
 |false=>
  have hf:e.length<6:=by rcases hf with h|h;(rw[hs]at h;cases h);exact h
  rw[J8y,oF]
  rfl
noncomputable def Jdh(id:Int)(q:Qry)(h:Int)(l:List Pr):Jd5:=(id,h,(Jm7 id q h l).2.2.1,())
theorem openG{m j:Nat}(hj:j<m) r:J1y ((j:Int)+1) r (Jap g 0 m)=some (decide (0<(g j).2.2.1)):=by
 unfold J1y
 rw[show J8q (Ty.beq (.int .i64)) ((j:Int)+1) (Jap g 0 m)=some (g j)from Jl5 g j m 0 (Nat.zero_le _) (by omega)]
 rfl
theorem qgetG{m j:Nat}(hj:j<m) r:J1z ((j:Int)+1) r (Jap g 0 m)=some ((g j).1,true):=by
 unfold J1z
 rw[show J8q (Ty.beq (.int .i64)) ((j:Int)+1) (Jap g 0 m)=some (g j)from Jl5 g j m 0 (Nat.zero_le _) (by omega)]
 rfl
theorem shutG{m j:Nat}(hj:j<m)(hu:0<(g j).2.2.1) r:J3u ((j:Int)+1) r (Jap g 0 m)=some (true,Jap (Kav g j ((g j).1,(g j).2.1,0,())) 0 m):=by
 unfold J3u
 rw[show J8q (Ty.beq (.int .i64)) ((j:Int)+1) (Jap g 0 m)=some (g j)from Jl5 g j m 0 (Nat.zero_le _) (by omega)]
 simp
 rw[J8y,oF]
 rw[show ∀y:Ent,J91 (Ty.beq (.int .i64)) ((j:Int)+1) y (Jap g 0 m)=Jap (Kav g j y) 0 m from λy=>Joo g j y m 0 (Nat.zero_le _) (by omega)]
theorem Ka5{m j:Nat}(hj:j<m)(hu:0<(g j).2.2.1)(hq:(g j).1.1=1\/(g j).1.1=2)(hrow:K29 l)(hh:1<=h/\h<=16)(hfz:cli.2.2.2.1=false)(hexp:J13 now cli=some false)(hroot:Jy h cli=some (Jcu l,true,cli))
 (hlast:Jkz e ((j:Int)+1)<h) (hf:(J8q ib ((j:Int)+1) e).isSome=true\/e.length<6) (hcl:cl.length<8) (hco:∀c∈cl,Jd7 c) (hb:0<=r.2.1) mi x10 x11 x12 x13 x15:
    J21 (Jm7 ((j:Int)+1) (g j).1 h l) now () cli r (Jap g 0 m) () e (cl,()) mi x10 x11 x12 x13 () x15=
      some (0,cli,Jap (Kav g j ((g j).1,(g j).2.1,0,())) 0 m,J91 ib ((j:Int)+1) (Jdh ((j:Int)+1) (g j).1 h l,r.2.1,()) e,(cl++[Jdh ((j:Int)+1) (g j).1 h l],())):=by
  obtain⟨a1,a2⟩:=K0e hrow hq ((j:Int)+1) h hh
  obtain⟨o1,o2,o3,o4,o5⟩:=Jmw ((j:Int)+1) (g j).1 h l hrow
  have hC:Jd7 (Jdh ((j:Int)+1) (g j).1 h l):=by unfold Jd7 Jdh;dsimp only;omega
  unfold J21
  rw[a1,J8f,show(!true)=false from rfl,J8y,o4,o5,openG hj,J8f,decide_eq_true hu,show(!true)=false from rfl,J8y]
  rw[show J3r cli=some false from by unfold J3r;rw[hfz],J8f,J8y,hexp,J8f,J8y,clastG,J8f,oF,hroot,J8f]
  rw[show(!true)=false from rfl,J8y,roomG cl (by omega),J8f,oF,qgetG hj,J8f]
  dsimp only
  rw[a2,J8f,show(!decide ((0:Int)=0))=false from rfl,J8y,show J23 r (Jap g 0 m)=some r.2.1 from rfl,J8f]
  rw[show((((j:Int)+1),h,(Jm7 ((j:Int)+1) (g j).1 h l).2.2.1,()):Jd5)=Jdh ((j:Int)+1) (g j).1 h l from rfl]
  rw[putG (Jdh ((j:Int)+1) (g j).1 h l) r.2.1 e hh.1 hb hlast hC hf,J8f]
  dsimp only
  rw[show(!decide ((0:Int)=0))=false from rfl,J8y,pushG _ cl hcl hC hco,shutG hj hu]
  rfl
theorem Kcw(hn0:Jeo now0)(hR:∀l∈R,Jeo l)(hlen:R.length<=16){m j:Nat}(hj:j<m)(hu:0<(g j).2.2.1)(hq:(g j).1.1=1\/(g j).1.1=2){i:Nat}(hi:R.length - 6<=i/\i<R.length)(hrow:K29 (R.getD i []))(hfz:cli.2.2.2.1=false)(hexp:J13 now cli=some false)(hroot:Jy ((i:Int)+1) cli=some (Jcu (R.getD i []),true,cli))
 (hlast:Jkz e ((j:Int)+1)<(i:Int)+1) (hf:(J8q ib ((j:Int)+1) e).isSome=true\/e.length<6) (hcl:cl.length<8) (hco:∀c∈cl,Jd7 c) (hb:0<=r.2.1) (q:Int) D K V mi x10 x11 x12 x13 x15 (ac:List Jd5) (hac:ac.length<=1000):
    J20 ((j:Int)+1) ((i:Int)+1) now q () () D K V (stR now0 R) B () cli r (Jap g 0 m) () e (cl,()) mi x10 x11 x12 x13 () x15 ac=
      some (0,cli,Jap (Kav g j ((g j).1,(g j).2.1,0,())) 0 m,J91 ib ((j:Int)+1) (Jdh ((j:Int)+1) (g j).1 ((i:Int)+1) (R.getD i []),r.2.1,()) e,(cl++[Jdh ((j:Int)+1) (g j).1 ((i:Int)+1) (R.getD i [])],()),ac++[Jdh ((j:Int)+1) (g j).1 ((i:Int)+1) (R.getD i [])]):=by
  obtain⟨o1,o2,o3,o4,o5⟩:=Jmw ((j:Int)+1) (g j).1 ((i:Int)+1) (R.getD i []) hrow
  have hAt:J5h ((i:Int)+1) () D K V (stR now0 R) B=some (R.getD i [],true):=by
    unfold J5h
    rw[K6o _ (K6p hn0 hR hlen),J8f,stR_at,oI,show((i:Int)+1 - 1).toNat=i from by omega]
  unfold J20
  rw[show J17 () cli r (Jap g 0 m) () e (cl,()) mi x10 x11 x12 x13 () x15=some ()from rfl,J8f,qgetG hj,J8f,hAt,J8f]
  rw[show(!true)=false from rfl,J8y,J8y,Kcv hrow hq,J8f]
  unfold J2e
  rw[Ka5 hj hu hq hrow (by omega) hfz hexp hroot hlast hf hcl hco hb,J8f]
  unfold Ji
  rw[oN,J8f,J8i (by simp;omega),o4,o5]
  rfl
def Ka3(t r:Int):List UInt8:=Jdf [t,r]
def K1l(n:List UInt8)(t r:Int):Pr:=([115,47]++n,Ka3 t r,())
def Amt(n:Int):Prop:=0<=n/\n<=1073741824
theorem Jle(h:Amt n):J3c n=some true:=by
 unfold J3c
 rw[J8w h.1,decide_eq_true h.2]
theorem K5s(ht:Amt t)(hr:Amt r):J4o t r=some (Ka3 t r):=by
 unfold J4o
 rw[Jle ht,Jle hr,put_eq _ (by simp)]
 rfl
theorem Jy4(l:List UInt8)(h:l.length<=1000):J6n l=some (l,false,()):=by
 unfold J6n
 rw[J8i (by rw[List.length_nil];omega)];rfl
theorem K6 t r:(Ka3 t r).length<=14:=by have:=Jsh [t,r];unfold Ka3;omega
theorem Ka2(ht:Amt t)(hr:Amt r):J4i (Ka3 t r)=some (t,r,true):=by
 have e:Ka3 t r=Jev t++(Jev r++[]):=by unfold Ka3 Jdf;simp
 have hl:=K6 t r
 unfold J4i
 rw[Jy4 _ (by omega),J8f,e,number_eq,K4z t ht.1 (by have:=ht.2;omega),J8f]
 rw[number_eq,K4z r hr.1 (by have:=hr.2;omega),J8f,Kdd,J8f]
 rw[show(!(!false&&decide (([]:List UInt8)=[])))=false from rfl,J8y,Jle ht,J8f,Bool.not_true,J8y,Jle hr,J8f,Bool.not_true,J8y]
theorem Ka1:J4i []=some (0,0,false):=by
 unfold J4i
 rw[show J6n []=some ([],false,())from rfl,J8f,number_eq,J8f,number_eq]
 rfl
def Jtb:List (List UInt8×Int×Int)->Int
 |[]=>0
 |x::r=>x.2.1+x.2.2+Jtb r
def Jmk(l:List (List UInt8×Int×Int)):List Pr:=l.map λx=>K1l x.1 x.2.1 x.2.2
theorem is_key n:J5z ([115,47]++n)=some true:=by
 unfold J5z J6e J5e
 have hl:(([115,47]++n).length:Int)=(n.length:Int)+2:=by simp;omega
 have h2:(([115,47]:List UInt8).length:Int)=2:=rfl
 rw[hl,oT,oN]
 rfl
theorem Kbj n t r:J5z (K1l n t r).1=some true:=is_key n
theorem Jon(x:List UInt8×Int×Int) r:Jtb (x::r)=x.2.1+x.2.2+Jtb r:=rfl
theorem Jg4:∀{l:List (List UInt8×Int×Int)},(∀x∈l,Amt x.2.1/\Amt x.2.2)->0<=Jtb l
 |[],_=>Int.le_refl _
 |x::r,h=>by
  have h1:=h x (List.mem_cons_self ..);have h2:=Jg4 λy hy=>h y (List.mem_cons_of_mem _ hy)
  have:=h1.1.1;have:=h1.2.1;rw[Jon];omega
theorem Jtn(l:List Pr)(n:Nat)(hn:l.length=n)(hn2:n<=1000):∀(m:List (List UInt8×Int×Int)) (acc:Int) (i:Nat),i+m.length=n->l.drop i=Jmk m->(∀x∈m,Amt x.2.1/\Amt x.2.2)->0<=acc->acc+Jtb m<=1073741824->
  J0d_1 acc l (n:Int) (i:Int)=some (.inr (acc+Jtb m))
 |[],acc,i,hi,hd,hm,h0,h1=>by
  unfold J0d_1
  refine J9d ?_
  unfold J0d_1_step
  rw[J90 (by simp at hi;omega)]
  rw[show Jtb []=0 from rfl,Int.add_zero]
 | x::m,acc,i,hi,hd,hm,h0,h1=>by
  simp only[List.length_cons]at hi
  have hx:=hm x (List.mem_cons_self ..)
  have hs:=Jg4 (l:=m) λy hy=>hm y (List.mem_cons_of_mem _ hy)
  have a1:=hx.1.1;have a2:=hx.2.1;have a3:=hx.1.2;have a4:=hx.2.2
  rw[Jon]at h1
  have hg:l.getD i zPr=K1l x.1 x.2.1 x.2.2:=by
   have:(l.drop i)[0]? =some (K1l x.1 x.2.1 x.2.2):=by rw[hd];rfl
   grind
  have hd2:l.drop (i+1)=Jmk m:=by
   have:(l.drop i).drop 1=Jmk m:=by rw[hd];rfl
   rw[List.drop_drop]at this;exact this
  have ih:=Jtn l n hn hn2 m (acc+(x.2.1+x.2.2)) (i+1) (by omega) hd2 (λy hy=>hm y (List.mem_cons_of_mem _ hy)) (by omega) (by omega)
  unfold J0d_1 at ih⊢
  rw[J9v (s':=(acc+(x.2.1+x.2.2),((i+1:Nat):Int))) (by
   unfold J0d_1_step
   rw[oT,oN,Int.toNat_natCast,show(([]:List UInt8),([]:List UInt8),())=zPr from rfl,hg,Kbj,J8f,Bool.not_true,J8y,show(K1l x.1 x.2.1 x.2.2).2.1=Ka3 x.2.1 x.2.2 from rfl,Ka2 hx.1 hx.2,J8f]
   dsimp only
   rw[Bool.not_true,J8y,oX (x.2.1+x.2.2),oW,oX ((i:Int)+1)]
   rfl),ih,Jon]
  congr 2;omega
theorem Jlj(m:List (List UInt8×Int×Int))(hl:m.length<=1000)(hm:∀x∈m,Amt x.2.1/\Amt x.2.2)(h1:Jtb m<=1073741824):J0d (Jmk m)=some (Jtb m,true):=by
 have hlen:(Jmk m).length=m.length:=List.length_map _
 have:=Jtn (Jmk m) m.length hlen hl m 0 0 (by omega) rfl hm (Int.le_refl _) (by omega)
 unfold J0d
 rw[hlen,show(0:Int)=((0:Nat):Int)from rfl]at*
 rw[this,J8f]
 dsimp only
 rw[Int.natCast_zero,Int.zero_add,Jle ⟨Jg4 hm,h1⟩,J8f,Bool.not_true,J8y]
theorem Jkx(n:List UInt8)(h:n.length<=1000):J2j n=some ([115,47]++n):=by
 unfold J2j
 rw[J8i (by simp;omega)]
theorem Kau(l:List Pr)(hl:Jeo l)(n:List UInt8)(hn:n≠[]/\n.length<=14)(hat:Ji5 l ([115,47]++n)=false)(hlen:l.length<30)(x:Int)(hx:Amt x)(s:Int)(hb:J0d (K5i l (K1l n x 0))=some (s,true)):
  J53 l n x=some (K5i l (K1l n x 0),0):=by
 have hr:=hl.1
 have z:Amt 0:=⟨by omega,by omega⟩
 have hx1:=hx.1;have hx2:=hx.2
 have hm:Jx7 (K1l n x 0)=true:=by
  have:=K6 x 0
  unfold Jx7 K1l
  grind
 have hset:Jpl l (K1l n x 0)=(K5i l (K1l n x 0),true):=by
  unfold Jpl;rw[hm,decide_eq_true hlen];simp
 unfold J53 J2g
 rw[Jkx n (by omega),J8f,J90 hn.1,J90 (by simp;omega),Jle hx,J8f,Bool.not_true,J8y,Jfx l hr (by have:=hl.2.1;omega),J8f,hat,if_neg (by simp),Ka1,J8f]
 dsimp only
 unfold J2g_1
 rw[J8y,Bool.not_false,Jbz,Bool.not_true,J8y,J8f]
 dsimp only
 unfold J5d
 rw[J8f,Int.zero_add,oW]
 dsimp only
 rw[K5s hx z,J8f,show(([115,47]++n,Ka3 x 0,()):Pr)=K1l n x 0 from rfl,Jx0 l hr (by have:=hl.2.1;omega),J8f,hset]
 dsimp only
 rw[Bool.not_true,J8y,hb,J8f]
 rfl
abbrev SRec:=List UInt8×Int×Int
abbrev Mir:=Int×Int×List Pr×Bool×Unit
theorem Jsp(m:List SRec):(Jmk m).length=m.length:=List.length_map _
theorem Kf7(m:List SRec)(hi:i<m.length):∃x∈m,(Jmk m).getD i zPr=K1l x.1 x.2.1 x.2.2:=by
 have hm:(Jmk m).getD i zPr∈Jmk m:=Jae (by rw[Jsp];exact hi)
 obtain⟨x,hx,e⟩:=List.mem_map.1 hm
 exact⟨x,hx,e.symm⟩
theorem Jrc(m:List SRec)(hl:m.length<=1000):J1b (Jmk m)=some false:=by
 have hlen:=Jsp m
 have e:Jn_1 (Jmk m) ((Jmk m).length:Int) 0=some (.inr ()):=by
  refine J8u (step:=λ(s:Int)=>Jn_1_step (Jmk m) ((Jmk m).length:Int) s) (λi (_:Unit)=>(i:Int)) (λ_ _=>()) (λ_=>.inr ()) m.length (λ_ _=>True) (λi w hi _=>⟨?_,trivial⟩) (λw _=> ?_) m.length 0 () (by omega) trivial
  ·unfold Jn_1_step J5l
   obtain⟨x,hx,ex⟩:=Kf7 m hi
   rw[oT,oN,Int.toNat_natCast,show(([]:List UInt8),([]:List UInt8),())=zPr from rfl,ex,Kbj,J8f]
   rw[oW]
   rfl
  ·unfold Jn_1_step
   rw[oF]
 unfold J1b Jn
 rw[e]
 rfl
theorem takeG(m:List SRec)(hl:m.length<=1000)(hm:∀x∈m,Amt x.2.1/\Amt x.2.2)(h1:Jtb m<=1073741824)(hk:J2b (Jmk m)=some true)(h:Int)(mi:Mir)(hh:1<=h/\mi.1<=h):
  J3b (1,h,Jmk m,()) mi=some (0,h,Jtb m,Jmk m,false,()):=by
 have hlen:=Jsp m
 unfold J3b
 dsimp only
 rw[hk,J8f,show(!true)=false from rfl,J8y,Jrc m hl,J8f,J8y,oF,Jlj m hl hm h1,J8f]
 rw[show(!true)=false from rfl,J8y]
 unfold Ji
 rw[oN,J8f]
abbrev K7b:=Mir×Int×Bool
noncomputable def Jr8(c:Jd5)(s:K7b)(y z:Int)(us:List (List UInt8×Int)):Option (Mir×Int×Bool):=
 J1v c () ([],[],0,false,()) (0,0,0,()) [] () [] ([],()) s.1 s.2.1 y z s.2.2 () us
theorem Jtr c (s:K7b) y z us cli r reg ca cq:J1v c () cli r reg () ca cq s.1 s.2.1 y z s.2.2 () us=Jr8 c s y z us:=rfl
theorem K0l(m:List SRec)(hl:m.length<=1000)(hm:∀x∈m,Amt x.2.1/\Amt x.2.2)(hk:J2b (Jmk m)=some true)(h:Int)(s:K7b)(hh:1<=h/\s.1.1<=h){us:List (List UInt8×Int)}(hL:Jc6 s.2.1 y z us)(hy:Jtb m<=1073741824 - y):
  Jr8 (1,h,Jmk m,()) s y z us=some ((h,Jtb m,Jmk m,false,()),Jtb m,false)/\Jc6 (Jtb m) y z us:=by
 have hp:=hL.p0
 obtain⟨e,o⟩:=K9d hL (Jtb m) (Jg4 hm) hy s.2.2 ()
 refine⟨?_,o⟩
 unfold Jr8 J1v
 rw[takeG m hl hm (by omega) hk h s.1 hh,J8f]
 rw[show J46 (h,Jtb m,Jmk m,false,())=some (Jtb m)from rfl,J8f,e]
 rfl
def Jr0(y z:Int)(us:List (List UInt8×Int)):List Jd5->K7b->K7b->Prop
 |[],s,t=>s=t
 |c::l,s,t=>∃u,Jr8 c s y z us=some u/\Jr0 y z us l u t
theorem Jpq cli r reg ca y z us:
  ∀(l:List Jd5) (s t:K7b) (c:Jd5),l.length<=1000->Jr0 y z us (c::l) s t->
   Jk_1 true () cli r reg () ca (l,()) s.1 s.2.1 y z s.2.2 () us c=some ((),cli,r,reg,(),ca,([],()),t.1,t.2.1,y,z,t.2.2,(),us)
 | [],s,t,c,hl,h=>by
  obtain⟨u,h1,h2⟩:=h
  subst h2
  unfold Jk_1
  rw[J9v (s':=(false,([],()),u.1,u.2.1,u.2.2,Kci)) (by
   unfold Jk_1_step
   rw[Jtr,h1]
   rfl)]
  exact J9d rfl
 | d::l,s,t,c,hl,h=>by
  obtain⟨u,h1,h2⟩:=h
  have ih:=Jpq cli r reg ca y z us l u t d (by rw[List.length_cons]at hl;omega) h2
  unfold Jk_1 at ih⊢
  rw[J9v (s':=(true,(l,()),u.1,u.2.1,u.2.2,d)) (by
   unfold Jk_1_step
   rw[Jtr,h1,popG d l (by rw[List.length_cons]at hl;omega)]
   rfl)]
  exact ih
theorem K88 cli (hm:m<=12) (hg:∀j,Jtd (g j)) a b l (hb:0<=b/\b<100000) (hl:0<=l/\l<=100000) ca (cl:List Jd5) (hcl:cl.length<=100) y z us (s t:K7b) (h:Jr0 y z us cl s t):
  Jk () cli (a,b,l,()) (Jap g 0 m) () ca (cl,()) s.1 s.2.1 y z s.2.2 () us=some ((),cli,(a,b+1,l+(Jcb (λj=>Jay (b+1) (g j)) m).length,()),Jap (λj=>Jr3 (b+1) (Jdi (b+1) (g j))) 0 m,(),ca,([],()),t.1,t.2.1,y,z,t.2.2,(),us,Jcb (λj=>Jay (b+1) (g j)) m,Jcb (λj=>Jf6 (b+1) (Jdi (b+1) (g j))) m):=by
 unfold Jk
 cases cl with
 | nil=>
  cases h
  rw[popG0,J8f]
  have e:Jk_1 false () cli (a,b,l,()) (Jap g 0 m) () ca ([],()) s.1 s.2.1 y z s.2.2 () us Kci=some ((),cli,(a,b,l,()),Jap g 0 m,(),ca,([],()),s.1,s.2.1,y,z,s.2.2,(),us):=by
   exact J9d rfl
  rw[e,J8f]
  rw[K6x m hm g hg a b l hb hl,J8f]
 |cons c cl=>
  rw[popG c cl (by rw[List.length_cons]at hcl;omega),J8f]
  rw[Jpq cli _ _ ca y z us cl s t c (by rw[List.length_cons]at hcl;omega) h,J8f]
  rw[K6x m hm g hg a b l hb hl,J8f]
abbrev TxT:=Int×List UInt8×List UInt8×Int×Int×Unit
abbrev zTx:TxT:=(0,[],[],0,0,())
abbrev zQy:Qry:=(0,[],[],0,0,())
abbrev WRes:=Int×Int×List Int×List Int×Jd5×Unit
abbrev zR(a b:Int)(k l:List Int):WRes:=(a,b,k,l,(0,0,[],()),())
theorem do_tx now q D K V s B c r e ca cq mi x y z hb us ac t (er:Int) s' V' (h:J4t t () D K V s B=some (er,(),D,K,s',B,V')):
  Jv (1,0,0,[],t,zQy,[],()) now q () () D K V s B () c r e () ca cq mi x y z hb () us ac=some (zR er 0 [] [],now,q,(),(),D,K,s',(),c,r,e,(),ca,cq,mi,x,y,z,hb,(),us,V',B,ac):=by
 unfold Jv
 rw[h]
 try rfl
theorem K3l now q D K V s B c r e ca cq mi x y z hb us ac t k (hk:k≠0) s' B' (h:J9 t () D K V s B=some (k,(),D,K,V,s',B')):
  Jv (2,t,0,[],zTx,zQy,[],()) now q () () D K V s B () c r e () ca cq mi x y z hb () us ac=some (zR 0 k [] [],now,q,(),(),D,K,s',(),c,r,e,(),ca,cq,mi,x,y,z,hb,(),us,V,B',ac):=by
 unfold Jv
 rw[h,J8f,J90 hk]
 try rfl
theorem K8d now q D K V s B c r e ca cq mi x y z hb us ac (t:Int) (h1:now<=t) (h2:t<=1073741824):
  Jv (3,t,0,[],zTx,zQy,[],()) now q () () D K V s B () c r e () ca cq mi x y z hb () us ac=some (zR 0 0 [] [],t,q,(),(),D,K,s,(),c,r,e,(),ca,cq,mi,x,y,z,hb,(),us,V,B,ac):=by
 unfold Jv
 rw[show J4d (3,t,0,([]:List UInt8),zTx,zQy,([]:List UInt8),()).2.1 now q () () D K V s B () c r e () ca cq mi x y z hb () us ac=some (0,t)from by unfold J4d;rw[J90 (show ¬t<now by omega),J90 (show ¬1073741824<t by omega)]]
 try rfl
theorem K8c now q D K V s B c r e ca cq mi x y z hb us ac r' e' (t:K7b) k l (h:Jk () c r e () ca cq mi x y z hb () us=some ((),c,r',e',(),ca,([],()),t.1,t.2.1,y,z,t.2.2,(),us,k,l)):
  Jv (5,0,0,[],zTx,zQy,[],()) now q () () D K V s B () c r e () ca cq mi x y z hb () us ac=some (zR 0 0 k l,now,q,(),(),D,K,s,(),c,r',e',(),ca,([],()),t.1,t.2.1,y,z,t.2.2,(),us,V,B,ac):=by
 unfold Jv
 rw[h]
 try rfl
theorem K8e now q D K V s B c r e ca cq mi x y z hb us ac (er n a b:Int) c' e' ca' cq' ac' (h:Jt now q () () D K V s B () c r e () ca cq mi x y z hb () us ac=some (zR er n [] [],now,q,(),(),D,K,V,s,B,(),c',r,e',(),ca',cq',mi,x,y,z,hb,(),us,ac')):
  Jv (13,0,0,[],zTx,zQy,[],()) now q () () D K V s B () c r e () ca cq mi x y z hb () us ac=some (zR er n [] [],now,q,(),(),D,K,s,(),c',r,e',(),ca',cq',mi,x,y,z,hb,(),us,V,B,ac'):=by
 unfold Jv
 rw[h]
 try rfl
theorem getP k k2 v:∀e:List (Int×Ce),J8q ib k2 (J91 ib k v e)=if k2=k then some v else J8q ib k2 e
 |[]=>by
  unfold J91 J8q
  rw[Jnj]
  by_cases c:k2=k
  ·grind
  ·rw[decide_eq_false c,if_neg c];rfl
 | p::e=>by
  unfold J91
  rw[Jnj]
  by_cases c:k=p.1
  ·rw[decide_eq_true c,cond_true]
   unfold J8q
   rw[Jnj]
   grind
  ·rw[decide_eq_false c,cond_false]
   unfold J8q
   rw[Jnj]
   by_cases c2:k2=p.1
   ·grind
   ·rw[decide_eq_false c2];exact getP k k2 v e
theorem lenP(k:Int) v:∀e:List (Int×Ce),(J91 ib k v e).length=if(J8q ib k e).isSome=true then e.length else e.length+1
 |[]=>rfl
 | p::e=>by
  unfold J91 J8q
  rw[Jnj]
  by_cases c:k=p.1
  ·grind
  ·rw[decide_eq_false c,cond_false,cond_false,List.length_cons,lenP k v e]
   split<;>simp
def K7d(e:List (Int×Ce)):Nat->Nat
 |0=>0
 |i+1=>K7d e i+if(J8q ib ((i:Int)+1) e).isSome=true then 1 else 0
theorem Kbb e:∀i,K7d e i<=i
 |0=>Nat.le_refl _
 |i+1=>by unfold K7d;have:=Kbb e i;split<;>omega
theorem cnt_lt{j:Nat}(h:(J8q ib ((j:Int)+1) e).isSome=false):∀i,j<i->K7d e i+1<=i
 |0,hj=>by omega
 |i+1,hj=>by
  unfold K7d
  by_cases c:j=i
  ·subst c;rw[h];have:=Kbb e j;simp;omega
  ·have:=cnt_lt h i (by omega);split<;>omega
theorem K35{j:Nat} v:∀i,K7d (J91 ib ((j:Int)+1) v e) i=K7d e i+if j<i/\(J8q ib ((j:Int)+1) e).isSome=false then 1 else 0
 |0=>by simp[K7d]
 |i+1=>by
  unfold K7d
  rw[K35 v i,getP]
  grind
def K79(m:Nat)(e:List (Int×Ce)):Prop:=e.length=K7d e m
theorem Kd4(hm:m<=6)(h:K79 m e){j:Nat}(hj:j<m):(J8q ib ((j:Int)+1) e).isSome=true\/e.length<6:=by
 cases c:(J8q ib ((j:Int)+1) e).isSome with
 |true=>exact .inl rfl
 |false=>have:=cnt_lt c m hj;unfold K79 at h;exact .inr (by omega)
theorem ca_put(h:K79 m e){j:Nat}(hj:j<m) v:K79 m (J91 ib ((j:Int)+1) v e):=by
 unfold K79 at h⊢
 rw[lenP,K35,h]
 grind
theorem K9b k k2 (v:Ce) e:Jkz (J91 ib k v e) k2=if k2=k then v.1.2.1 else Jkz e k2:=by
 unfold Jkz
 rw[getP]
 split<;>rfl
def Jlc(y:Ent):Ent:=if 0<y.2.2.1 then(y.1,y.2.1,0,())else y
section
variable (g : Nat → Ent) (h : Int) (l : List Pr) (b : Int) (e : List (Int × Ce))
noncomputable def Jaa:Nat->List Jd5
 |0=>[]
 |i+1=>Jaa i++if 0<(g i).2.2.1 then[Jdh ((i:Int)+1) (g i).1 h l]else[]
noncomputable def Jdy:Nat->List (Int×Ce)
 |0=>e
 |i+1=>if 0<(g i).2.2.1 then J91 ib ((i:Int)+1) (Jdh ((i:Int)+1) (g i).1 h l,b,()) (Jdy i)else Jdy i
theorem Jl9:∀i,(Jaa g h l i).length<=i
 |0=>Nat.le_refl _
 |i+1=>by unfold Jaa;have:=Jl9 i;split<;>simp<;>omega
theorem Kag{i:Nat}(c:0<(g i).2.2.1):Jaa g h l (i+1)=Jaa g h l i++[Jdh ((i:Int)+1) (g i).1 h l]:=by show _++_=_;rw[if_pos c]
theorem Kaf(c:¬0<(g i).2.2.1):Jaa g h l (i+1)=Jaa g h l i:=by show _++_=_;rw[if_neg c,List.append_nil]
theorem Jw5{i:Nat}(c:0<(g i).2.2.1):Jdy g h l b e (i+1)=J91 ib ((i:Int)+1) (Jdh ((i:Int)+1) (g i).1 h l,b,()) (Jdy g h l b e i):=if_pos c
theorem Jw4(c:¬0<(g i).2.2.1):Jdy g h l b e (i+1)=Jdy g h l b e i:=if_neg c
end
theorem Jvf g (h:Int) (hrow:K29 l):∀i,∀c∈Jaa g h l i,Jd7 c
 |0,c,hc=>by cases hc
 | i+1,c,hc=>by
  rcases List.mem_append.1 hc with hc|hc
  ·exact Jvf g h hrow i c hc
  ·split at hc
   ·rw[List.mem_singleton]at hc
    have:=(Jmw ((i:Int)+1) (g i).1 h l hrow).2.1
    subst hc;unfold Jd7 Jdh;dsimp only;omega
   ·cases hc
theorem Jr7 g (h:Int) l (b:Int) (he:K79 m e):∀i,i<=m->K79 m (Jdy g h l b e i)
 |0,_=>he
 |i+1,hi=>by
  by_cases c:0<(g i).2.2.1
  ·rw[Jw5 g h l b e c];exact ca_put (Jr7 g h l b he i (by omega)) (by omega) _
  ·rw[Jw4 g h l b e c];exact Jr7 g h l b he i (by omega)
theorem Jil g (h:Int) l (b:Int) e {j:Nat}:∀i,i<=j->Jkz (Jdy g h l b e i) ((j:Int)+1)=Jkz e ((j:Int)+1)
 |0,_=>rfl
 |i+1,hi=>by
  by_cases c:0<(g i).2.2.1
  ·rw[Jw5 g h l b e c,K9b,oJ,Jil g h l b e i (by omega)]
  ·rw[Jw4 g h l b e c,Jil g h l b e i (by omega)]
section
variable {n : Nat} {p f : Nat → Int} {R : List (List Pr)} {now0 : List Pr}
theorem K69(hn0:Jeo now0)(hR:∀l∈R,Jeo l)(hlen:R.length<=16){m:Nat}(hm:m<=6)(hq:∀j,j<m->(g j).1.1=1\/(g j).1.1=2){i:Nat}(hi:R.length - 6<=i/\i<R.length)(hrow:K29 (R.getD i []))(hfz:cli.2.2.2.1=false)(hexp:J13 now cli=some false)(hroot:Jy ((i:Int)+1) cli=some (Jcu (R.getD i []),true,cli))
 (he:K79 m e) (hlast:∀j,j<m->Jkz e ((j:Int)+1)<(i:Int)+1) (hb:0<=r.2.1) D K V mi x10 x11 x12 x13 x15 (ac:List Jd5) (hac:ac.length<=900) (a0 a1 a2 a3 a6 a8 a9 a10:Int) (er:Int):
    Jt_1 ((i:Int)+1) 1 now (m:Int) () () D K V (stR now0 R) B () cli r (Jap g 0 m) () e ([],()) mi x10 x11 x12 x13 () x15 ac a0 a1 a2 a3 () () er 0 a8 a9 () ()=
      some (now,(m:Int),(),(),D,K,V,stR now0 R,B,(),cli,r,Jap (λj=>Jlc (g j)) 0 m,(),Jdy g ((i:Int)+1) (R.getD i []) r.2.1 e m,(Jaa g ((i:Int)+1) (R.getD i []) m,()),mi,x10,x11,x12,x13,(),x15,ac++Jaa g ((i:Int)+1) (R.getD i []) m,a0,a1,a2,a3,(),(),er,((Jaa g ((i:Int)+1) (R.getD i []) m).length:Int),a8,a9,(),()):=by
  have hend:Jap (part Jlc g m) 0 m=Jap (λj=>Jlc (g j)) 0 m:=Jcs m 0 λj _ h2=>oI
  have hst:=part_0 Jlc g m
  rw[<-hend,<-hst]
  unfold Jt_1
  have:=J8u (step:=λ(s:Int×Cli×List (Int×Ent)×List (Int×Ce)×(List Jd5×Unit)×List Jd5×Int×Int)=>Jt_1_step ((i:Int)+1) s.1 now (m:Int) () () D K V (stR now0 R) B () s.2.1 r s.2.2.1 () s.2.2.2.1 s.2.2.2.2.1 mi x10 x11 x12 x13 () x15 s.2.2.2.2.2.1 a0 a1 a2 a3 () () s.2.2.2.2.2.2.1 s.2.2.2.2.2.2.2 a8 a9 () ())
    (λk (_:Unit)=>((k:Int)+1,cli,Jap (part Jlc g k) 0 m,Jdy g ((i:Int)+1) (R.getD i []) r.2.1 e k,(Jaa g ((i:Int)+1) (R.getD i []) k,()),ac++Jaa g ((i:Int)+1) (R.getD i []) k,er,((Jaa g ((i:Int)+1) (R.getD i []) k).length:Int))) (λ_ _=>())
    (λ_=>(now,(m:Int),(),(),D,K,V,stR now0 R,B,(),cli,r,Jap (part Jlc g m) 0 m,(),Jdy g ((i:Int)+1) (R.getD i []) r.2.1 e m,(Jaa g ((i:Int)+1) (R.getD i []) m,()),mi,x10,x11,x12,x13,(),x15,ac++Jaa g ((i:Int)+1) (R.getD i []) m,a0,a1,a2,a3,(),(),er,((Jaa g ((i:Int)+1) (R.getD i []) m).length:Int),a8,a9,(),())) m (λ_ _=>True) (λk w hk _=>⟨?_,trivial⟩) (λw _=> ?_) m 0 () (by omega) trivial
  · simpa[Jaa,Jdy]using this
  · dsimp only
    have hsl:=Jl9 g ((i:Int)+1) (R.getD i []) k
    have hgk:part Jlc g k k=g k:=if_neg (Nat.lt_irrefl k)
    unfold Jt_1_step
    rw[oT,show J17 () cli r (Jap (part Jlc g k) 0 m) () (Jdy g ((i:Int)+1) (R.getD i []) r.2.1 e k) (Jaa g ((i:Int)+1) (R.getD i []) k,()) mi x10 x11 x12 x13 () x15=some ()from rfl,J8f,openG hk,J8f,hgk,oW]
    by_cases c:0<(g k).2.2.1
    · rw[decide_eq_true c,show(!true)=false from rfl,J8y]
      rw[Kcw hn0 hR hlen hk (by rw[hgk];exact c) (by rw[hgk];exact hq k hk) hi hrow hfz hexp hroot (by rw[Jil _ _ _ _ _ k (Nat.le_refl _)];exact hlast k hk) (Kd4 hm (Jr7 _ _ _ _ he k (by omega)) hk) (by omega) (Jvf g _ hrow k) hb _ _ _ _ _ _ _ _ _ _ _ (by rw[List.length_append];omega),J8f,hgk]
      dsimp only
      rw[J8w rfl,oW,Jw5 _ _ _ _ _ c,Kag _ _ _ c]
      have hp:=Joe Jlc g m k hk
      rw[show Jlc (g k)=((g k).1,(g k).2.1,0,())from if_pos c]at hp
      grind
    · rw[decide_eq_false c,show(!false)=true from rfl,Jbz,Jw4 _ _ _ _ _ c,Kaf _ _ _ c,Jju Jlc g m k (if_neg c)]
      rfl
  · dsimp only
    unfold Jt_1_step
    rw[oF]
theorem relayW(hp:Jkn p)(h1:1<=n)(hn:n<=4)(hR:R.length<=16)(hf:Jms R.length f){j:Nat}(hj:1<=j/\j<R.length) T now (hnow:0<=now/\now<=1099511627776) (q1:¬T<now - f (j - 1)) (q2:f j<=now) (q:Int) s r e ca cq mi x y z hb us ac:
  J28 ((j:Int)+1) now q () () (J8t n) (J8x n) (J8s p n) s (BL n p f R) () (Ji9 n p f R T j) r e () ca cq mi x y z hb () us ac=some (0,Ji9 n p f R T (j+1)):=by
 unfold J28
 rw[Kb8 hn hR hj.2,J8f]
 unfold J3y
 rw[Kg1 hp h1 hn hR hf hj T now hnow q1 q2]
 rfl
theorem serveW(hp:Jkn p)(h1:1<=n)(hn:n<=4)(hn0:Jeo now0)(hR:∀l∈R,Jeo l)(hlen:R.length<=16)(hf:Jms R.length f){j:Nat}(hj:1<=j/\j+1=R.length)(hrow:K29 (R.getD j []))(hnow:0<=now/\now<=1099511627776)(q1:¬T<now - f (j - 1))(q2:f j<=now)(q3:¬T<now - f j){m:Nat}(hm:m<=6)(hq:∀j,j<m->(g j).1.1=1\/(g j).1.1=2)
 (he:K79 m e) (hlast:∀k,k<m->Jkz e ((k:Int)+1)<(j:Int)+1) (hb:0<=r.2.1) mi x y z hb2 us (ac:List Jd5) (hac:ac.length<=900):
    Jt now (m:Int) () () (J8t n) (J8x n) (J8s p n) (stR now0 R) (BL n p f R) () (Ji9 n p f R T j) r (Jap g 0 m) () e ([],()) mi x y z hb2 () us ac=
      some (zR 0 ((Jaa g ((j:Int)+1) (R.getD j []) m).length:Int) [] [],now,(m:Int),(),(),J8t n,J8x n,J8s p n,stR now0 R,BL n p f R,(),Ji9 n p f R T (j+1),r,Jap (λk=>Jlc (g k)) 0 m,(),Jdy g ((j:Int)+1) (R.getD j []) r.2.1 e m,(Jaa g ((j:Int)+1) (R.getD j []) m,()),mi,x,y,z,hb2,(),us,ac++Jaa g ((j:Int)+1) (R.getD j []) m):=by
  have hBL:=Jy8 n p f R
  unfold Jt
  rw[show J4b () (J8t n) (J8x n) (J8s p n) (stR now0 R) (BL n p f R)=some ((j:Int)+1)from by unfold J4b;rw[hBL,<-hj.2];rfl,J8f]
  unfold J45 J27
  rw[show(Ji9 n p f R T j).1=hdK n p f R j from rfl,show(Ji9 n p f R T j).2.1=J8s p n from rfl,Jn0 _ (by rw[Jkw];omega),J8f,Jkr p hn,J8f,J8f,J8f]
  rw[latG hj.1,J8f,show(hL n p f R (j - 1)).1=((j - 1:Nat):Int)+1 from Kdt _ _ _ _ _,oT,relayW hp h1 hn hlen hf ⟨hj.1,by omega⟩ T now hnow q1 q2,J8f]
  dsimp only
  rw[K69 hn0 hR hlen hm hq (i:=j) (by omega) hrow rfl (by rw[expG hp hn hlen hf (by omega) T now hnow,show j+1 - 1=j from rfl,decide_eq_false q3]) (by
    have:=rootG (n:=n) (p:=p) (f:=f) (R:=R) (j:=j+1) T (h:=j) (by omega)
    exact this) he hlast hb _ _ _ _ _ _ _ _ _ _ hac 0 0 0 0 0 0 0 0 0,J8f]
end
def fI(j:Nat):Int:=(j:Int)+1
theorem Kdn(m:Nat)(hm:m<=1000):Jms m fI:=⟨λi hi=>by unfold fI;omega,λi hi=>by unfold fI;omega⟩
def Jm3(b:Int)(g:Nat->Ent):Nat->Ent:=λj=>Jr3 (b+1) (Jdi (b+1) (g j))
theorem K6h(R:List (List Pr)) l:(R++[l]).getD R.length []=l:=by
 grind
theorem Kc6(hR:∀x∈R,Jeo x)(hl:Jeo l):∀x∈R++[l],Jeo x:=λx hx=>by
 grind
section
variable {n : Nat} {p : Nat → Int} {R : List (List Pr)} {now0 : List Pr}
theorem Kdb(hp:Jkn p)(h1:1<=n)(hn:n<=4)(hn0:Jeo now0)(hR:∀l∈R,Jeo l)(hlen:1<=R.length/\R.length<16):
  J9 ((R.length:Int)+1) () (J8t n) (J8x n) (J8s p n) (stR now0 R) (BL n p fI R)=some ((R.length:Int)+1,(),J8t n,J8x n,J8s p n,stR now0 (R++[now0]),BL n p fI (R++[now0])):=
 Kd9 hp h1 hn hlen hR hn0 (λj hj=>by unfold fI;omega) (by unfold fI;omega)
theorem Kc3(hp:Jkn p)(h1:1<=n)(hn:n<=4)(hn0:Jeo now0)(hR:∀l∈R,Jeo l)(hlen:1<=R.length/\R.length<16)(hrow:K29 now0)(hT:1<=T){m:Nat}(hm:m<=6)(hg:∀j,Jtd (g j))(hq:∀j,j<m->(Jm3 b g j).1.1=1\/(Jm3 b g j).1.1=2)
 (he:K79 m e) (hlast:∀j,j<m->Jkz e ((j:Int)+1)<(R.length:Int)+1) (hb:0<=b/\b<100000) (hl:0<=l/\l<=100000) {cl:List Jd5} (hcl:cl.length<=100) {y z:Int} {us:List (List UInt8×Int)} {s t:K7b} (hc:Jr0 y z us cl s t) (ac:List Jd5) (hac:ac.length<=900) {N i c:Int} (hi:i<c) (hi0:0<=i/\i<=1000) (hN:0<=N/\N<=1000):
    J0x_1_step 1 N c i (R.length:Int) (m:Int) () () (J8t n) (J8x n) (stR now0 R) () (Ji9 n p fI R T R.length) (a,b,l,()) (Jap g 0 m) () e (cl,()) s.1 s.2.1 y z s.2.2 () us (J8s p n) (BL n p fI R) ac=
      some (.inl (N+((Jaa (Jm3 b g) ((R.length:Int)+1) now0 m).length:Int),i+1,(R.length:Int)+1,(m:Int),(),(),J8t n,J8x n,stR now0 (R++[now0]),(),Ji9 n p fI (R++[now0]) T (R.length+1),(a,b+1,l+(Jcb (λj=>Jay (b+1) (g j)) m).length,()),Jap (λj=>Jlc (Jm3 b g j)) 0 m,(),Jdy (Jm3 b g) ((R.length:Int)+1) now0 (b+1) e m,(Jaa (Jm3 b g) ((R.length:Int)+1) now0 m,()),t.1,t.2.1,y,z,t.2.2,(),us,J8s p n,BL n p fI (R++[now0]),ac++Jaa (Jm3 b g) ((R.length:Int)+1) now0 m)):=by
  have hl2:(R++[now0]).length=R.length+1:=by rw[List.length_append];rfl
  have hs:=Jl9 (Jm3 b g) ((R.length:Int)+1) now0 m
  have h3:=K8d (R.length:Int) (m:Int) (J8t n) (J8x n) (J8s p n) (stR now0 R) (BL n p fI R) (Ji9 n p fI R T R.length) (a,b,l,()) (Jap g 0 m) e (cl,()) s.1 s.2.1 y z s.2.2 us ac ((R.length:Int)+1) (by omega) (by omega)
  have h2:=K3l ((R.length:Int)+1) (m:Int) (J8t n) (J8x n) (J8s p n) (stR now0 R) (BL n p fI R) (Ji9 n p fI R T R.length) (a,b,l,()) (Jap g 0 m) e (cl,()) s.1 s.2.1 y z s.2.2 us ac ((R.length:Int)+1) ((R.length:Int)+1) (by omega) _ _ (Kdb hp h1 hn hn0 hR hlen)
  have hcb:=K88 (Ji9 n p fI R T R.length) (m:=m) (by omega) hg a b l hb hl e cl hcl y z us s t hc
  rw[show(λj=>Jr3 (b+1) (Jdi (b+1) (g j)))=Jm3 b g from rfl]at hcb
  have h5:=K8c ((R.length:Int)+1) (m:Int) (J8t n) (J8x n) (J8s p n) (stR now0 (R++[now0])) (BL n p fI (R++[now0])) (Ji9 n p fI R T R.length) (a,b,l,()) (Jap g 0 m) e (cl,()) s.1 s.2.1 y z s.2.2 us ac _ _ t _ _ hcb
  have hsv:=serveW (n:=n) (p:=p) (f:=fI) (now0:=now0) hp h1 hn hn0 (Kc6 hR hn0) (by omega) (Kdn _ (by omega)) (by omega) (by rw[K6h];exact hrow) (T:=T) (now:=(R.length:Int)+1) (by omega) (by unfold fI;omega) (by unfold fI;omega) (by unfold fI;omega) hm hq he hlast (r:=(a,b+1,l+(Jcb (λj=>Jay (b+1) (g j)) m).length,())) (by show 0<=b+1;omega) t.1 t.2.1 y z t.2.2 us ac hac
  rw[K6h,K33 n p fI R now0 T (Nat.le_refl _)]at hsv
  have h13:=K8e ((R.length:Int)+1) (m:Int) (J8t n) (J8x n) (J8s p n) (stR now0 (R++[now0])) (BL n p fI (R++[now0])) (Ji9 n p fI R T R.length) (a,b+1,l+(Jcb (λj=>Jay (b+1) (g j)) m).length,()) (Jap (Jm3 b g) 0 m) e ([],()) t.1 t.2.1 y z t.2.2 us ac _ _ 0 0 _ _ _ _ _ hsv
  unfold J0x_1_step
  rw[J8w hi]
  simp only[J50,J8f]
  rw[show max (1:Int) 1=1 from rfl,oW]
  rw[show Jv _ _ _ _ _ _ _ _ _ _ _ _ _ _ _ _ _ _ _ _ _ _ _ _ _=_ from h3,J8f]
  rw[show Jv _ _ _ _ _ _ _ _ _ _ _ _ _ _ _ _ _ _ _ _ _ _ _ _ _=_ from h2,J8f]
  dsimp only
  rw[show Jv _ _ _ _ _ _ _ _ _ _ _ _ _ _ _ _ _ _ _ _ _ _ _ _ _=_ from h5,J8f]
  dsimp only
  rw[show Jv _ _ _ _ _ _ _ _ _ _ _ _ _ _ _ _ _ _ _ _ _ _ _ _ _=_ from h13,J8f]
  dsimp only
  rw[oW,oW]
end
def R1:Pr:=([115,47,97],[9,0],())
theorem K0g:J0d [R1]=some (9,true):=Jlj [([97],9,0)] (by simp) (λx hx=>by rw[List.mem_singleton.1 hx];exact⟨⟨by decide,by decide⟩,by decide,by decide⟩) (by decide)
theorem K5y:Jb6 [R1]:=by simp[Jb6]
theorem Kc4:K7o [R1]:=⟨K5y,by decide,by decide,by decide⟩
theorem Jxr:Jeo [R1]:=by
 have h:=Kc7 (Jp1 K6q) ([115,47,97],[9,0],())
 exact h.1
theorem Jow:∀l∈[([]:List Pr)],Jeo l:=λl h=>by rw[List.mem_singleton.1 h];exact Jk3
theorem K3i:J53 [] [97] 9=some ([R1],0):=
 Kau [] Jk3 [97] ⟨by simp,by simp⟩ rfl (by simp) 9 ⟨by decide,by decide⟩ 9 K0g
theorem Kdx D K V B:J4t (3,[97],[],9,0,()) () D K V (stR [] [[]]) B=some (0,(),D,K,stR [R1] [[]],B,V):=by
 have e:J1f ([115,47,97],[9,0],()) ([],1,[[]],())=some (true,([R1],1,[[]],())):=by
  rw[Kv _ (by
   have:=Jp1 K6q
   exact this)]
  rfl
 show J8e (J53 [] [97] 9) _=_
 rw[K3i,J8f]
 rw[show J2j [97]=some [115,47,97]from rfl,J8f,Jfx [R1] K5y (by simp),J8f]
 show J8e (J1f ([115,47,97],[9,0],()) ([],1,[[]],())) _=_
 rw[e]
 rfl
abbrev zM:Mir:=(0,0,[],false,())
theorem call_m(h:Int) l:Jdh 1 Qm h l=(1,h,Jcp l [115,47] [115,48],()):=by
 rfl
theorem K2z(h:Int):Jdh 1 Qm h [R1]=(1,h,Jmk [([97],9,0)],()):=by rw[call_m];rfl
theorem led0:Jc6 0 0 0 []:=⟨by omega,by omega,by omega,by omega,by omega,rfl,trivial⟩
def gB(b:Int):Nat->Ent:=λ_=>(Qm,b+1,0,())
theorem gB_ok(b:Int):∀j,Jtd (gB b j):=λ_=>⟨by show(0:Int)<=1;omega,by show(1:Int)<=1000;omega,by show(0:Int)<=3;omega,by show(3:Int)<=1000;omega⟩
theorem K4x(b:Int)(h:0<=b):Jm3 b (gB b)=λ_=>(Qm,b+1+1,b+1+3,()):=by
 funext j
 unfold Jm3 Jdi Jay gB Jr3 Jf6
 simp[Qm]
 omega
section
variable {n : Nat} {p : Nat → Int}
theorem Kfg(hp:Jkn p)(h1:1<=n)(hn:n<=4):∃r e ca cq ac,J0x 2 1 1 1 () () (J8t n) (J8x n) (J8s p n) (stR [R1] [[]]) (BL n p fI [[]]) () (Ji9 n p fI [[]] 50 1) (1,0,0,()) (Jap (gB 0) 0 1) () [] ([],()) zM 0 0 0 false () [] []=
  some (2,3,1,(),(),J8t n,J8x n,stR [R1] [[],[R1],[R1]],(),(Ji9 n p fI [[],[R1],[R1]] 50 3),r,e,(),ca,([cq],()),(2,9,[R1],false,()),9,0,0,false,(),[],J8s p n,BL n p fI [[],[R1],[R1]],ac)/\Jd7 cq:=by
 have A:=Kc3 (now0:=[R1]) (T:=50) (g:=gB 0) (m:=1) (e:=[]) (a:=1) (l:=0) (cl:=[]) (y:=0) (z:=0) (us:=[]) (s:=(zM,0,false)) (t:=(zM,0,false)) (N:=0) (i:=0) (c:=2) hp h1 hn Jxr Jow (by simp) (row_G Kc4) (by omega) (by omega) (gB_ok 0) (λj hj=>by rw[K4x 0 (by omega)];exact .inr rfl) rfl (λj hj=>by show(0:Int)<2;omega) (by omega) (by omega) (by simp) rfl [] (by simp) (by omega) (by omega) (by omega)
 have hco:=(K0l [([97],9,0)] (by simp) (λx hx=>by rw[List.mem_singleton.1 hx];exact⟨⟨by decide,by decide⟩,by decide,by decide⟩) ((Jh2 _ (by simp[Jmk])).trans rfl) 2 ((zM,0,false):K7b) (by simp) (y:=0) (z:=0) (us:=[]) led0 (by decide)).1
 have Bq:=Kc3 (now0:=[R1]) (T:=50) (g:=gB (0+1)) (m:=1) (e:=J91 ib 1 (Jdh 1 Qm 2 [R1],0+1,()) []) (a:=1) (l:=0+0) (cl:=[Jdh 1 Qm 2 [R1]]) (y:=0) (z:=0) (us:=[]) (s:=(zM,0,false)) (t:=((2,9,[R1],false,()),9,false)) (N:=0+1) (i:=0+1) (c:=2) hp h1 hn Jxr (Kc6 Jow Jxr) (by simp) (row_G Kc4) (by omega) (by omega) (gB_ok _) (λj hj=>by rw[K4x (0+1) (by omega)];exact .inr rfl) rfl (λj hj=>by
  obtain rfl:j=0:=by omega
  show(2:Int)<3;omega) (by omega) (by omega) (by simp) ⟨_,by rw[K2z];exact hco,rfl⟩ [Jdh 1 Qm 2 [R1]] (by simp) (by omega) (by omega) (by omega)
 refine⟨(1,2,0,()),Jap (gB 2) 0 1,J91 ib 1 (Jdh 1 Qm 3 [R1],2,()) (J91 ib 1 (Jdh 1 Qm 2 [R1],1,()) []),Jdh 1 Qm 3 [R1],[Jdh 1 Qm 2 [R1],Jdh 1 Qm 3 [R1]], ?_,by rw[K2z];show(1:Nat)<=1000;omega⟩
 unfold J0x J0x_1
 rw[J9v (s':=_) A,J9v (s':=_) Bq,J9d rfl]
 rfl
theorem K85(hn:n<=4) f now q s B (T:Int) (j:Nat) r e ca (cl:List Jd5) (hcl:cl.length<=100) (hc:∀c∈cl,Jd7 c) mh mb (mr:List Pr) (hmr:mr.length<=1000) mx x y z hb us ac:
  J4q now q () () (J8t n) (J8x n) (J8s p n) s B () (Ji9 n p f R T j) r e () ca (cl,()) (mh,mb,mr,mx,()) x y z hb () us ac=
   some ((),(T,false,()),hdK n p f R j,J8s p n,(),(cl,()),mh,mb,(mx,()),mr):=by
 unfold J4q J2p J27
 rw[show(Ji9 n p f R T j).1=hdK n p f R j from rfl,show(Ji9 n p f R T j).2.1=J8s p n from rfl,Jn0 _ (by rw[Jkw];omega),Jkr p hn]
 unfold J59 J4x J47 Ji
 rw[show J57 () ca=some ()from rfl,J8f,Jrd cl (by omega) hc,J8f,J8f,J8i (by dsimp only;omega),J8f,J8f,J8f,J8f]
 rfl
theorem awakeN(hp:Jkn p)(h1:1<=n)(hn:n<=4)(hch:Jr [1]=some ((),J8t n,J8x n,Jab n,J8s p n)):J5y=some true:=by
 obtain⟨r,e,ca,cq,ac,hS,hcq⟩:=Kfg (n:=n) (p:=p) hp h1 hn
 have hw:=Jvu (n:=n) (p:=p) (f:=fI) hp h1 hn rfl 50 (by omega)
 rw[show([hL n p fI [[]] 0],J8s p n,(50:Int),false,())=Ji9 n p fI [[]] 50 1 from rfl,show Jap gM 0 1=Jap (gB 0) 0 1 from rfl]at hw
 have hT:=do_tx 1 1 (J8t n) (J8x n) (J8s p n) (stR [] [[]]) (BL n p fI [[]]) (Ji9 n p fI [[]] 50 1) (1,0,0,()) (Jap (gB 0) 0 1) [] ([],()) zM 0 0 0 false [] [] (3,[97],[],9,0,()) 0 (stR [R1] [[]]) (J8s p n) (Kdx _ _ _ _)
 have hC:=K85 (n:=n) (p:=p) hn fI 3 1 (stR [R1] [[],[R1],[R1]]) (BL n p fI [[],[R1],[R1]]) 50 3 (R:=[[],[R1],[R1]]) r e ca [cq] (by simp) (by simpa using hcq) 2 9 [R1] (by simp) false 9 0 0 false [] ac
 unfold J5y
 rw[hch,J8f]
 rw[hw,J8f]
 rw[show Jv _ _ _ _ _ _ _ _ _ _ _ _ _ _ _ _ _ _ _ _ _ _ _ _ _=_ from hT,J8f]
 dsimp only
 rw[hS,J8f]
 dsimp only
 rw[hC]
 rfl
end
theorem K0f:J5y=some true:=by
 obtain⟨h1,hn⟩:=Kk [1]
 exact awakeN (Keo [1]) h1 hn (Jyi [1] (by simp))
theorem K5x(hp:Jkn p)(hq:∀i,p i<=9)(hn:n<=4):K22 (J8s p n):=by
 have h:=Jmi p n hn
 refine⟨by rw[Jbr];omega,λv hv=> ?_⟩
 obtain⟨i,hi,rfl⟩:=List.mem_map.1 hv
 have h3:=h.2 _ hv
 have:i<4:=by have:=List.mem_range.1 hi;omega
 refine⟨?_,h3.2,by have:=hp i;show 0<=p i;omega,by have:=hq i;show p i<=1048576;omega⟩
 show(nm i).length<=100
 rcases i with _|_|_|_|i<;>first|decide|omega
theorem rw0(hn:n<=4)(hS:K22 S)(hb:FstB n S b)(T:Int):RwT n 0 (1,[],(),(J8t n,J8x n,Jab n,[],S,[b],[[]],()),[],0,[],0,(),([b.1],b.2.2.2.1,T,false,()),(0,0,[(Qm,1,0,true,())],()),[],[],0,0,0,(false,()),[]):=by
 obtain⟨b1,b2,b3,b4⟩:=hb
 have h1:=Kdw S [] 1
 have hB:Kaz b:=⟨by rw[b1];exact Jq6 _ _ _,by rw[b2];exact Kfj _ (by rw[h1];simp) (by rw[h1];simp) hn,by rw[b3];exact hS,by rw[b4];exact hS⟩
 have hr:Jfk []:=⟨by simp,by simp⟩
 exact⟨by simp,⟨⟨rfl,rfl,rfl,hr,hS,by simp,rfl,by simpa using hB,by simpa using hr⟩,by simp⟩,⟨by simp,by simp⟩,hr,⟨by simp,by simp,by rw[b4];exact hS⟩,⟨by simp,λe he=>by rw[List.mem_singleton.1 he];exact⟨by decide,by decide⟩⟩,led0⟩
def Kcm(n:Nat)(B:List Block):Prop:=(1<=B.length/\B.length<=16)/\∀i,i<B.length->Kaz (B.getD i Jtc)/\Jav (B.getD i Jtc).1=true/\(B.getD i Jtc).1.1=(i:Int)+1/\(B.getD i Jtc).2.2.2.1.length=n
def LiT(B:List Block)(c:Cli):Prop:=(1<=c.1.length/\c.1.length<=6)/\(∀x∈c.1,∃i,i<B.length/\x=(B.getD i Jtc).1)/\K22 c.2.1/\c.2.2.2.1=false
theorem Km(h:K22 l):Jvz l:=λv hv=>(h.2 v hv).2.1
theorem Kd0(h:Kaz b):K7f b:=⟨h.1,λx hx=>(h.2.1.2 x hx).2,by have:=h.2.1.1;omega,Km h.2.2.1,Km h.2.2.2,by have:=h.2.2.1.1;omega,by have:=h.2.2.2.1;omega⟩
section
variable {n : Nat} {B : List Block} (hB : Kcm n B) {c : Cli} (hc : LiT B c)
include hB hc
theorem li_ok:K7h c:=by
 obtain⟨⟨h1,h2⟩,h3,h4,_⟩:=hc
 have hm:lastH c∈c.1:=by
  unfold lastH;rw[List.getD_eq_getElem?_getD,List.getElem?_eq_getElem (by omega)];exact List.getElem_mem ..
 obtain⟨i,hi,e⟩:=h3 _ hm
 have hr:=(Jba _).1 (hB.2 i hi).2.1
 rw[<-e]at hr
 exact⟨h1,by omega,⟨by have:=h4.1;omega,λv hv=>by have:=(h4.2 v hv).2.2;omega⟩,by omega,by omega⟩
theorem Ke6(hi:i<B.length)(hn:0<=now/\now<=1073741824):Ok (J2x (B.getD i Jtc) now c) (λu=>LiT B u.2):=by
 have hb:=(hB.2 i hi).1
 refine Ok.eq (Kcd _ now c (Kd0 hb) (li_ok hB hc) ⟨by omega,by omega⟩) ?_
 obtain⟨⟨h1,h2⟩,h3,h4,h5⟩:=hc
 have hc:LiT B c:=⟨⟨h1,h2⟩,h3,h4,h5⟩
 unfold updS
 repeat' split
 all_goals first|exact hc|skip
 have hm:=Jcy h3 ⟨i,hi,rfl⟩
 have hl:(c.1++[(B.getD i Jtc).1]).length=c.1.length+1:=by simp
 refine⟨?_,λx hx=>hm x ?_,hb.2.2.2,h5⟩
 ·dsimp only[K3b];split<;>(try rw[List.length_drop])<;>omega
 ·dsimp only[K3b]at hx;split at hx
  ·exact List.mem_of_mem_drop hx
  ·exact hx
theorem K9(hn:0<=now/\now<=1073741824) t q D K V s r e ca cq mi x y z hb us ac:Ok (J28 t now q () () D K V s B () c r e () ca cq mi x y z hb () us ac) (λo=>LiT B o.2):=by
 unfold J28 J1j J24 J3 J3y
 simp only[wp]
 refine⟨λ_=>⟨λ_=>hc,by simp⟩,λh1=>⟨λ_=>⟨λ_=>hc,by simp⟩,λh2=> ?_⟩⟩
 have hB1:=hB.1.2
 obtain⟨i,rfl⟩:∃i:Nat,t=i+1:=⟨(t - 1).toNat,by omega⟩
 rw[oW,show((i:Int)+1 - 1).toNat=i from by omega]
 have hb:=(hB.2 i (by omega)).1
 have hl:=Ke6 hB hc (i:=i) (by omega) hn
 have z:(((0:Int),(0:Int),(List.replicate 32 (0:UInt8)),(List.replicate 32 (0:UInt8)),(List.replicate 32 (0:UInt8)),(List.replicate 32 (0:UInt8)),()),([]:List J9q),([]:List Val),([]:List Val),())=Jtc:=rfl
 rw[z]
 have q1:=hb.2.1.1;have q2:=hb.2.2.1.1;have q3:=hb.2.2.2.1
 exact⟨by omega,by omega,by omega,by omega,by simp,λ_=>hl⟩
end
section
variable {κ α : Type} {f : κ → κ → Bool} {k : κ} {v : α}
theorem Kc1:∀e:List (κ×α),(J91 f k v e).length<=e.length+1
 |[]=>by simp[J91]
 |p::r=>by have:=Kc1 r;unfold J91;cases f k p.1<;>simp<;>omega
theorem Jmh:∀{e:List (κ×α)},(J8q f k e).isSome=true->(J91 f k v e).length=e.length
 |[],h=>by simp[J8q]at h
 |p::r,h=>by
  unfold J91;unfold J8q at h
  cases q:f k p.1<;>simp_all
  exact Jmh h
theorem Jyk:∀e:List (κ×α),(Ja7 f k e).length<=e.length
 |[]=>by simp[Ja7]
 |p::r=>by have:=Jyk r;unfold Ja7;cases f k p.1<;>simp<;>omega
theorem Jzz:∀{e:List (κ×α)},x∈J91 f k v e->x∈e\/x.2=v
 |[],h=>by simp[J91]at h;simp[h]
 |p::r,h=>by
  unfold J91 at h
  have:=Jzz (x:=x) (e:=r)
  cases q:f k p.1<;>simp_all<;>grind
theorem Jyl:∀{e:List (κ×α)},x∈Ja7 f k e->x∈e
 |[],h=>by simp[Ja7]at h
 |p::r,h=>by
  unfold Ja7 at h
  have:=Jyl (x:=x) (e:=r)
  cases q:f k p.1<;>simp_all<;>grind
theorem Jz6:∀{e:List (κ×α)},J8q f k e=some v->∃p∈e,p.2=v
 |[],h=>by simp[J8q]at h
 |p::r,h=>by
  unfold J8q at h
  have:=Jz6 (e:=r)
  cases q:f k p.1<;>simp_all
end
def CaT(ca:List (Int×Ce)):Prop:=∀x∈ca,Jd7 x.2.1
theorem Kd3{ca:List (Int×Ce)}(h:CaT ca)(k:Int):Jd7 ((J8q (Ty.beq (.int .i64)) k ca).getD (((0:Int),(0:Int),([]:List Pr),()),(0:Int),())).1:=by
 cases e:J8q (Ty.beq (.int .i64)) k ca with
 |none=>show(0:Nat)<=1000;omega
 |some v=>obtain⟨p,hp,q⟩:=Jz6 e;rw[<-show p.2=v from q];exact h p hp
def CqT(cq:List Jd5×Unit):Prop:=cq.1.length<=8/\∀c∈cq.1,Jd7 c
theorem Jtu(h:Jd7 c):J2o c=some c:=by
 unfold J2o Ji;unfold Jd7 at h;rw[oN];rfl
theorem Kel(h:Jd7 c){ca:List (Int×Ce)}(hca:CaT ca)(b:Int):Ok (J48 c b () ca) (λo=>CaT o.2):=by
 have hp:CaT (J91 (Ty.beq (.int .i64)) c.1 (c,b,()) ca):=λx hx=>by
  rcases Jzz hx with hx|hx
  ·exact hca x hx
  ·rw[hx];exact h
 unfold J48
 simp only[wp,Jtu h]
 repeat' first|exact hca|exact hp|intro _|with_reducible apply And.intro
theorem K9f(h:Int)(hc:c.1.length<=6):Ok (Jy h c) (λo=>o.2.2=c):=by
 simp only[Jy,wp]
 refine(Jeg (Q:=λo=>match o with| .inl o=>o.2.1=c| .inr o=>o.1=c) (λi:Int=>0<=i/\i<=c.1.length) (λi=>c.1.length - i) (by simp) λi hi=> ?_).imp λo ho=> ?_
 ·have e1:=oX (i+1)
  simp only[Jy_1_step,wp]
  repeat' first|trivial|omega|intro _|with_reducible apply And.intro
 ·cases o<;>exact Jkk.2 ho
def CoT(c:Cli)(o:Int×Cli×List (Int×Ent)×List (Int×Ce)×List Jd5×Unit):Prop:=o.2.1=c/\o.2.2.1.length<=6/\CaT o.2.2.2.1/\CqT o.2.2.2.2
section
variable {n : Nat} {B : List Block} (hB : Kcm n B) {c : Cli} (hc : LiT B c) {now : Int} (hn : 0 ≤ now ∧ now ≤ 1073741824) {e : List (Int × Ent)} (he : e.length ≤ 6) {ca : List (Int × Ce)} (hca : CaT ca) {cq : List Jd5 × Unit} (hcq : CqT cq) {X : Rsp} (hX : Jm0 X.2.2.2.1 ∧ X.2.2.1.length ≤ 1000) (r : Int × Int × Int × Unit) (mi : Mir) (x y z : Int) (hb : Bool) (us : Um)
include hB hc hn he hca hcq hX
theorem K87:Ok (J21 X now () c r e () ca cq mi x y z hb () us) (CoT c):=by
 obtain⟨q1,q2⟩:=hcq
 have hcq:CqT cq:=⟨q1,q2⟩
 have hk:Jd7 (X.1,X.2.1,X.2.2.1,()):=hX.2
 have s:=λ{c':Cli} {k:Int} (h:c'=c)=>(⟨h,he,hca,hcq⟩:CoT c (k,c',e,ca,cq))
 unfold J21 J1y J3r J58 J2m J1z J23 J3u
 have hw:=oX (8 - (cq.1.length:Int))
 simp only[wp,Jij X (by have:=hX.2;omega),Jkv now c (li_ok hB hc) ⟨by omega,by omega⟩,Jmu _ _ X hX.1 (by have:=hX.2;omega)]
 refine⟨λ_=>s rfl,λ_=>⟨λ_=>s rfl,λ_=>⟨λ_=>s rfl,λ_=>⟨λ_=>s rfl,λ_=>⟨λ_=>s rfl,λ_=>(K9f _ hc.1.2).imp λo ho=>⟨λ_=>s ho,λ_=>⟨λ_=>s ho,λh8=>⟨λ_=>s ho,λ_=>(Kel hk hca _).imp λu hu=>⟨λ_=>⟨ho,he,hu,hcq⟩,λ_=>Ok.eq (pushG _ cq.1 (by omega) hk q2) ?_⟩⟩⟩⟩⟩⟩⟩⟩⟩
 have hq:CqT (cq.1++[(X.1,X.2.1,X.2.2.1,())],()):=⟨by simp;omega,Jcy q2 hk⟩
 refine⟨λ_=>⟨ho,he,hu,hq⟩,λh9=>⟨λ_=>⟨ho,he,hu,hq⟩,λ_=>⟨ho, ?_,hu,hq⟩⟩⟩
 rw[Jmh h9];exact he
theorem Jzv(ha:ac.length<=100000)(q:Int) D K V st:Ok (J2e X now q () () D K V st B () c r e () ca cq mi x y z hb () us ac) (λo=>CoT c (o.1,o.2.1,o.2.2.1,o.2.2.2.1,o.2.2.2.2.1)/\o.2.2.2.2.2.length<=ac.length+1):=by
 unfold J2e Ji
 simp only[wp,List.length_cons,List.length_nil,List.length_append]
 exact(K87 hB hc hn he hca hcq hX r mi x y z hb us).imp λo ho=>⟨λ_=>⟨by omega,by omega,ho,by omega⟩,λ_=>⟨ho,by omega⟩⟩
end
theorem of_ok(h:Jeo l) id t q:Ok (J7c id q t l) (λx=>Jm0 x.2.2.2.1/\x.2.2.1.length<=1000):=by
 have hk:=Jxs h
 have hl:=h.2.1
 have s:∀a b,Jm0 (Jbb l a (min b l.length)):=λa b=>Jmn l hk _ _ (by omega)
 unfold J7c
 simp only[wp,Jky l h.1 (by omega),Jsj l hk h.1,Jyy l hk h.1,Jfx l h.1 (by omega),Jtj l hk h.1]
 have hr:∀a b,(Jcp l a b).length<=1000:=λa b=>by have:=List.length_filter_le (inR a b) l;unfold Jcp;omega
 refine⟨λ_=>⟨s _ _,hr _ _⟩,λ_=>⟨λc=> ?_,λc=> ?_⟩⟩
 ·split at c
  ·rename_i c1;have:=(Jeu c1).1
   simp only[c1]
   exact⟨Jmn l hk _ _ (by omega),by simp⟩
  ·simp at c
 ·split at c
  ·simp at c
  ·rename_i c1
   simp only[c1]
   exact⟨s _ _,by simp⟩
section
variable {n : Nat} {B : List Block} (hB : Kcm n B) {c : Cli} (hc : LiT B c) {now : Int} (hn : 0 ≤ now ∧ now ≤ 1073741824) {e : List (Int × Ent)} (he : e.length ≤ 6) {ca : List (Int × Ce)} (hca : CaT ca) {cq : List Jd5 × Unit} (hcq : CqT cq) {s : Stt} (hs : Jm6 s) (r : Int × Int × Int × Unit) (mi : Mir) (x y z : Int) (hb : Bool) (us : Um) (q : Int) (D : List (List UInt8)) (K : List (List (List UInt8))) (V : List Val)
include hB hc hn he hca hcq hs
theorem K5b(ha:ac.length<=100000) i j:Ok (J20 i j now q () () D K V s B () c r e () ca cq mi x y z hb () us ac) (λo=>CoT c (o.1,o.2.1,o.2.2.1,o.2.2.2.1,o.2.2.2.2.1)/\o.2.2.2.2.2.length<=ac.length+1):=by
 have h0:CoT c (3,c,e,ca,cq):=⟨rfl,he,hca,hcq⟩
 unfold J20 J5h J1z J17 J2c J2q
 simp only[wp,K6o s hs]
 refine⟨λ_=>⟨h0,by omega⟩,λ_=>⟨λ_=>⟨h0,by omega⟩,λk=> ?_⟩⟩
 have hl:Jeo (atS s j).1:=by
  unfold atS at k⊢
  split
  ·rename_i c;rw[if_pos c]at k;cases k
  ·exact Jua hs.2.2.2.2 _
 exact(of_ok hl _ _ _).imp λX hX=>Jzv hB hc hn he hca hcq hX r mi x y z hb us ha q D K V s
def SvT(B:List Block)(a:Nat)(o:Cli×List (Int×Ent)×List (Int×Ce)×(List Jd5×Unit)×List Jd5):Prop:=LiT B o.1/\o.2.1.length<=6/\CaT o.2.2.1/\CqT o.2.2.2.1/\o.2.2.2.2.length<=a
theorem K5h(ha:ac.length<=a)(ha2:a<=90000)(h1:0<=q/\q<=100):Ok (Jt now q () () D K V s B () c r e () ca cq mi x y z hb () us ac) (λ(_,now',q',_,_,D',K',V',s',B',_,c',r',e',_,ca',cq',mi',x',y',z',_,_,us',ac')=>SvT B (a+100) (c',e',ca',cq',ac')/\now'=now/\q'=q/\D'=D/\K'=K/\V'=V/\s'=s/\B'=B/\r'=r/\mi'=mi/\x'=x/\y'=y/\z'=z/\us'=us):=by
 have lp:∀{c:Cli} (hc:LiT B c) (h er:Int),Ok (Jt_1 h 1 now q () () D K V s B () c r e () ca cq mi x y z hb () us ac 0 0 0 0 () () er 0 0 0 () ()) (λ(now',q',_,_,D',K',V',s',B',_,c',r',e',_,ca',cq',mi',x',y',z',_,_,us',ac',_)=>SvT B (a+100) (c',e',ca',cq',ac')/\now'=now/\q'=q/\D'=D/\K'=K/\V'=V/\s'=s/\B'=B/\r'=r/\mi'=mi/\x'=x/\y'=y/\z'=z/\us'=us):=λ{c} hc h er=>by
  refine Jeg (λt:Int×Cli×List (Int×Ent)×List (Int×Ce)×(List Jd5×Unit)×List Jd5×Int×Int=>1<=t.1/\t.1<=q+1/\LiT B t.2.1/\t.2.2.1.length<=6/\CaT t.2.2.2.1/\CqT t.2.2.2.2.1/\(t.2.2.2.2.2.1.length:Int)<=a+t.1 - 1) (λt=>q+1 - t.1) ⟨by simp,by dsimp only;omega,hc,he,hca,hcq,by dsimp only;omega⟩ λt ht=> ?_
  obtain⟨i1,i2,i3,i4,i5,i6,i7⟩:=ht
  have e1:=oX (t.1+1)
  unfold Jt_1_step J17 J2c J2q J1y
  simp only[wp,e1]
  refine⟨λ_=>⟨λ_=>⟨⟨by omega,by omega,i3,i4,i5,i6,by omega⟩,by omega,by omega⟩,λ_=>(K5b hB i3 hn i4 i5 i6 hs r mi x y z hb us q D K V (ac:=t.2.2.2.2.2.1) (by omega) _ _).imp λo ho=> ?_⟩,λ_=>⟨⟨i3,i4,i5,i6,by dsimp only;omega⟩,by trivial,by trivial,by trivial,by trivial,by trivial,by trivial,by trivial,by trivial,by trivial,by trivial,by trivial,by trivial,by trivial⟩⟩
  obtain⟨⟨o1,o2,o3,o4⟩,o5⟩:=ho
  rw[o1]
  have g:1<=t.1+1/\t.1+1<=q+1/\LiT B t.2.1/\o.2.2.1.length<=6/\CaT o.2.2.2.1/\CqT o.2.2.2.2.1/\(o.2.2.2.2.2.length:Int)<=a+(t.1+1) - 1:=⟨by omega,by omega,i3,o2,o3,o4,by omega⟩
  exact⟨λ_=>⟨g,by omega,by omega⟩,λ_=>⟨λ_=>⟨g,by omega,by omega⟩,λ_=>⟨g,by omega,by omega⟩⟩⟩
 have hl:=hc.1
 have hs2:=hc.2.2.1.1
 have e1:=oX ((c.1.length:Int) - 1)
 unfold Jt J4b J45 J27 J3s Jq J3
 simp only[wp]
 exact⟨by omega,by omega,by omega,λ_=>(K9 hB hc hn _ q D K V s r e ca cq mi x y z hb us ac).imp λu hu=>lp hu _ _,λ_=>lp hc _ _⟩
end
theorem Jlq(n:Int):Ok (J3c n) (λr=>r=true->0<=n/\n<=1073741824):=by
 simp only[J3c,wp];exact⟨λ_ h=>by omega,λ_=>by simp⟩
theorem Jsk(h:v.length<=1000):Ok (J4i v) (λr=>0<=r.1/\r.1<=1073741824/\0<=r.2.1/\r.2.1<=1073741824):=by
 simp only[J4i,J6n,wp,number_eq,Kdd,List.length_nil]
 exact⟨by omega,λ_=>by simp,λ_=>(Jlq _).imp λa ha=>⟨λ_=>by simp,λa1=>(Jlq _).imp λb hb=>⟨λ_=>by simp,λb1=>by have:=ha a1;have:=hb b1;omega⟩⟩⟩
theorem K94 k:Ok (J5z k) (λ_=>True):=by
 simp only[J5z,J6e,J5e,wp]
 repeat' first|omega|trivial|intro _|with_reducible apply And.intro
theorem Kh(hl:l.length<=1000)(h:∀p∈l,p.2.1.length<=1000):Ok (J0d l) (λ_=>True):=by
 simp only[J0d,wp]
 refine(Jeg (Q:=λ_=>True) (λi:Int×Int=>0<=i.2/\i.2<=l.length) (λi=>l.length - i.2) (by simp) λi hi=> ?_).imp λo _=> ?_
 ·have e1:=oX (i.2+1)
  simp only[J0d_1_step,wp]
  exact⟨λc=>⟨by omega,(K94 _).imp λb _=>⟨λ_=>by omega,λ_=>(Jsk (h _ (Jb0 (by omega) c _))).imp λu _=>⟨λ_=>trivial,λ_=>by omega⟩⟩⟩,λ_=>trivial⟩
 ·cases o with
  |inl o=>exact Jkk.2 trivial
  |inr o=>simp only[wp];exact(Jlq _).imp λa _=>⟨λ_=>trivial,λ_=>trivial⟩
abbrev K7k(m:Mir):Prop:=m.2.2.1.length<=1000
theorem Kfs(hk:Jd7 k)(hm:K7k m):Ok (J3b k m) (λo=>K7k o.2):=by
 have hk2:k.2.2.1.length<=1000:=hk
 have cf:Ok (J1b k.2.2.1) (λ_=>True):=by
  simp only[J1b,Jn,wp]
  refine(Jeg (Q:=λ_=>True) (λi:Int=>0<=i/\i<=k.2.2.1.length) (λi=>k.2.2.1.length - i) (by simp) λi hi=> ?_).imp λo _=> ?_
  ·have e1:=oX (i+1)
   simp only[Jn_1_step,J5l,wp]
   exact⟨λc=>⟨by omega,(K94 _).imp λb _=>⟨λ_=>trivial,λ_=>by omega⟩⟩,λ_=>trivial⟩
  ·cases o<;>exact Jkk.2 trivial
 unfold J3b Ji
 simp only[wp,Jh2 k.2.2.1 (by omega)]
 exact⟨λ_=>hm,λq=>cf.imp λ_ _=>⟨λ_=>hm,λ_=>⟨λ_=>hm,λ_=>(Kh hk2 (λp hp=>by have:=(Kbp (((Jct _).1 q).2.1 p hp)).2.2;omega)).imp λo _=>⟨λ_=>hm,λ_=>⟨by omega,hk⟩⟩⟩⟩⟩
theorem K30(hk:Jd7 k)(hm:K7k m){x y z:Int}{us:Um}(h:Jc6 x y z us)(c:Cli)(r:Int×Int×Int×Unit)(e:List (Int×Ent))(ca:List (Int×Ce))(cq:List Jd5×Unit)(b:Bool):Ok (J1v k () c r e () ca cq m x y z b () us) (λo=>K7k o.1/\Jc6 o.2.1 y z us):=by
 have p0:=h.p0;have t0:=h.top;have s0:=h.s0
 unfold J1v J46 J4l J4n
 simp only[wp,oX (1073741824 - y)]
 exact⟨λ_=>⟨hm,h⟩,λ_=>(Kfs hk hm).imp λo ho=>⟨λ_=>⟨λ_=>⟨λ_=>⟨ho,h⟩,λ_=>⟨ho,h⟩⟩,λ_=>⟨λ_=>⟨λ_=>⟨ho,h⟩,λ_=>⟨ho,h⟩⟩,λ_=>⟨λ_=>⟨ho,by omega,p0,by omega,h.a0,h.a1,h.sum,h.non⟩,λ_=>⟨ho,by omega,p0,by omega,h.a0,h.a1,h.sum,h.non⟩⟩⟩⟩,λ_=>⟨λ_=>⟨ho,h⟩,λ_=>⟨ho,h⟩⟩⟩⟩
theorem Jys{e:List (Int×Ent)}{z:Ent}(hz:z.2.1=0/\z.2.2.1=0)(h:¬((J8q (Ty.beq (.int .i64)) k e).getD z).2.1=0\/0<((J8q (Ty.beq (.int .i64)) k e).getD z).2.2.1):(J8q (Ty.beq (.int .i64)) k e).isSome=true:=by
 cases q:J8q (Ty.beq (.int .i64)) k e with
 |none=>rw[q]at h;simp at h;omega
 |some v=>rfl
theorem K9r(he:e.length<=6)(r:Int×Int×Int×Unit):Ok (J8 r e) (λo=>o.1.1=r.1/\o.2.1.length<=6):=by
 have hs:=Jvh J55 e (by omega) rfl
 have hl:(Jlz (e.map (·.1))).length=e.length:=by rw[(Jfh _).length_eq,List.length_map]
 generalize Jlz (e.map (·.1))=l at hs hl
 unfold J8 J33 J8_1 J8_2
 simp only[wp,hs]
 refine(Jeg (Q:=λo=>o.1.1=r.1/\o.2.1.length<=6/\o.2.2.2=l) (λs:Int×List (Int×Ent)×List Int=>0<=s.1/\s.1<=l.length/\s.2.1.length<=6/\s.2.2.length<=s.1) (λs=>l.length - s.1) ⟨by simp,by simp,he,by simp⟩ λs hi=> ?_).imp λo ho=> ?_
 ·obtain⟨i1,i2,i3,i4⟩:=hi
  have e1:=oX (s.1+1)
  simp only[J8_1_step,wp,List.length_append,List.length_cons,List.length_nil]
  refine⟨λ_=>⟨by omega,λq=>⟨λ_=>⟨by omega,⟨by omega,by omega, ?_,by omega⟩,by omega⟩,λ_=>by omega⟩,λ_=>by omega⟩,λ_=>⟨by trivial,by omega,by trivial⟩⟩
  rw[Jmh (Jys ⟨rfl,rfl⟩ (.inr q))];exact i3
 ·obtain⟨o1,o2,o3⟩:=ho
  simp only[o3]
  refine Jeg (λs:Int×List (Int×Ent)×List Int=>0<=s.1/\s.1<=l.length/\s.2.1.length<=6/\s.2.2.length<=s.1) (λs=>l.length - s.1) ⟨by simp,by simp,o2,by simp⟩ λs hi=> ?_
  obtain⟨i1,i2,i3,i4⟩:=hi
  have e1:=oX (s.1+1)
  simp only[J8_2_step,wp,e1,List.length_append,List.length_cons,List.length_nil]
  refine⟨λ_=>⟨by omega,λ_=>by omega,λq=>⟨λ_=>by omega,λ_=>⟨λ_=>by omega,λ_=>⟨λ_=>⟨by omega,⟨by omega,by omega, ?_,by omega⟩,by omega⟩,λ_=>⟨by omega,⟨by omega,by omega, ?_,by omega⟩,by omega⟩⟩⟩⟩⟩,λ_=>⟨o1,i3⟩⟩
  all_goals (rw[Jmh (Jys ⟨rfl,rfl⟩ (.inl q))];exact i3)
theorem K5d(hm:K7k m){us:Um}(h:Jc6 x y z us){e:List (Int×Ent)}(he:e.length<=6){cq:List Jd5×Unit}(hq:CqT cq)(c:Cli)(r:Int×Int×Int×Unit)(ca:List (Int×Ce))(b:Bool):
  Ok (Jk () c r e () ca cq m x y z b () us) (λ(_,c',r',e',_,ca',cq',m',x',y',z',_,_,us',_)=>c'=c/\r'.1=r.1/\e'.length<=6/\ca'=ca/\CqT cq'/\K7k m'/\Jc6 x' y z us/\y'=y/\z'=z/\us'=us):=by
 have pop:∀{cq:List Jd5×Unit},CqT cq->Ok (J2a cq) (λo=>CqT o.2.2/\Jd7 o.1/\(o.2.1=true->o.2.2.1.length+1=cq.1.length)/\(o.2.1=false->o.2.2.1.length=0)):=λ{cq} ⟨q1,q2⟩=>by
  unfold J2a
  simp only[wp]
  refine⟨λc=>⟨⟨q1,q2⟩,show(0:Nat)<=1000 by omega,by simp,λ_=>by omega⟩,λc=>⟨by omega,by omega,⟨Nat.le_trans (K3f ..) q1,λx hx=>q2 x (Jw9 hx)⟩,q2 _ (Jb0 (by omega) (by omega) _),λ_=> ?_,by simp⟩⟩
  simp only[Ja1,List.length_drop,List.length_take];omega
 unfold Jk Jk_1
 simp only[wp]
 refine(pop hq).imp λp hp=>(Jeg (Q:=λ(_,c',r',e',_,ca',cq',m',x',y',z',_,_,us')=>c'=c/\r'=r/\e'=e/\ca'=ca/\CqT cq'/\K7k m'/\Jc6 x' y z us/\y'=y/\z'=z/\us'=us) (λs:Bool×(List Jd5×Unit)×Mir×Int×Bool×Jd5=>CqT s.2.1/\Jd7 s.2.2.2.2.2/\K7k s.2.2.1/\Jc6 s.2.2.2.1 y z us/\(s.1=false->s.2.1.1.length=0)) (λs=>s.2.1.1.length+(if s.1=true then 1 else 0)) ⟨hp.1,hp.2.1,hm,h,hp.2.2.2⟩ λs hs=> ?_).imp λo ho=> ?_
 ·obtain⟨i1,i2,i3,i4,i5⟩:=hs
  simp only[Jk_1_step,wp]
  refine⟨λq=>(K30 i2 i3 i4 _ _ _ _ _ _).imp λu hu=>(pop i1).imp λv hv=>⟨⟨hv.1,hv.2.1,hu.1,hu.2,hv.2.2.2⟩,by split<;>omega, ?_⟩,λ_=>⟨by trivial,by trivial,by trivial,by trivial,i1,i3,i4,by trivial,by trivial,by trivial⟩⟩
  rw[if_pos q]
  cases w:v.2.1 with
  |true=>have:=hv.2.2.1 w;omega
  |false=>have:=hv.2.2.2 w;simp;omega
 ·obtain⟨o1,o2,o3,o4,o5,o6,o7,o8,o9,o10⟩:=ho
  simp only[o2,o3]
  exact(K9r he r).imp λu hu=>⟨o1,hu.1,hu.2,o4,o5,o6,o7,o8,o9,o10⟩
def SetV(n:Nat)(V:List Val):Prop:=K22 V/\V.length=n
theorem Kfh(l:List Pr) p:(Jpl l p).1.length<=l.length+1:=by
 unfold Jpl
 split
 ·rw[K4];split<;>omega
 ·dsimp only;omega
theorem rec_ok a b:Ok (J4o a b) (λ_=>True):=by
 simp only[J4o,wp]
 exact(Jlq _).imp λ_ _=>⟨λ_=>trivial,λ_=>(Jlq _).imp λ_ _=>⟨λ_=>trivial,λ_=>Ok.eq (put_eq _ (by simp)) trivial⟩⟩
section
variable {l : List Pr} (h : Jeo l) {k : List UInt8} (hk : k.length ≤ 1000) (a b : Int)
include h hk
theorem Kfw:Ok (J53 l k a) (λo=>Jeo o.1)/\Ok (J7b l k a) (λo=>Jeo o.1)/\Ok (J7n l k a b) (λo=>Jeo o.1):=by
 have hl:=h.2.1
 have g:∀k,Ok (J4u l k) (λo=>o.1.length<=1000):=λk=>Ok.eq (Jfx l h.1 (by omega) k) (by
  split
  ·rename_i c;have:=(h.2.2 _ (Jb0 (i:=(J8o l k:Int)) (by omega) (by have:=(Jeu c).1;omega) zPr)).2;rw[Int.toNat_natCast]at this;dsimp only;omega
  ·simp)
 have fin:∀p,Ok (J6z l p) (λu=>(u.2=false->Jeo l)/\(u.2=true->Ok (J0d u.1) λw=>(w.2=false->Jeo l)/\(w.2=true->Jeo u.1))):=λp=>Ok.eq (Jx0 l h.1 (by omega) p) (by
  have hp:=Kl h p
  have:=hp.2.1
  exact⟨λ_=>h,λ_=>(Kh (by omega) (λq hq=>by have:=(hp.2.2 q hq).2;omega)).imp λw _=>⟨λ_=>h,λ_=>hp⟩⟩)
 have rf:∀{x y:Int} {k:List UInt8},Ok (J4o x y) (λr=>Ok (J6z l (k,r,())) λu=>(u.2=false->Jeo l)/\(u.2=true->Ok (J0d u.1) λw=>(w.2=false->Jeo l)/\(w.2=true->Jeo u.1))):=(rec_ok _ _).imp λ_ _=>fin _
 refine⟨?_, ?_, ?_⟩
 ·simp only[J53,J2g,J2g_1,J5d,wp,Jkx k hk]
  refine⟨λ_=>h,λ_=>⟨λ_=>h,λ_=>(Jlq _).imp λ_ _=>⟨λ_=>h,λ_=>(g _).imp λv hv=>(Jsk hv).imp λw hw=> ?_⟩⟩⟩
  repeat' first|exact h|exact rf|intro _|with_reducible apply And.intro
 ·simp only[J7b,J3i,J3i_1,J6h,wp,Jkx k hk]
  refine⟨λ_=>h,λ_=>⟨λ_=>h,λ_=>(Jlq _).imp λ_ _=>⟨λ_=>h,λ_=>(g _).imp λv hv=>(Jsk hv).imp λw hw=> ?_⟩⟩⟩
  repeat' first|exact h|exact rf|intro _|with_reducible apply And.intro
 ·simp only[J7n,J3h,J3h_1,J6m,wp,Jkx k hk]
  refine⟨λ_=>h,λ_=>⟨λ_=>h,λ_=>(Jlq _).imp λ_ _=>⟨λ_=>h,λ_=>(g _).imp λv hv=>(Jsk hv).imp λw hw=> ?_⟩⟩⟩
  repeat' first|exact h|exact rf|omega|intro _|with_reducible apply And.intro
end
theorem hdo_ok(ht:TxOk t)(hs:Jm6 s)(hl:s.1.length<30)(hV:SetV n V) D K B:Ok (J4t t () D K V s B) (λ(_,_,D',K',s',B',V')=>D'=D/\K'=K/\(Jm6 s'/\s'.1.length<=s.1.length+1)/\B'=B/\SetV n V'):=by
 obtain⟨t1,t2,t3⟩:=ht
 have hv:=hV.1.1
 have h0:Jm6 s/\s.1.length<=s.1.length+1:=⟨hs,by omega⟩
 have set:∀p,Jm6 ((Jpl s.1 p).1,s.2.1,s.2.2.1,())/\(Jpl s.1 p).1.length<=s.1.length+1:=λp=>⟨Kc7 hs p,Kfh _ _⟩
 have hm:Jx7 (t.2.1,t.2.2.1,())=true:=by unfold Jx7;rw[decide_eq_false (by intro h;have h:t.2.1=[]:=h;rw[h]at t2;simp at t2),decide_eq_true (by dsimp only;omega),decide_eq_true (by dsimp only;omega)];rfl
 have hr:Jcd [(t.2.1,t.2.2.1,())]=true:=(Jct _).2 ⟨by simp[Jb6],by simpa using hm,by simp⟩
 have h2:(Jpl s.1 (t.2.1,t.2.2.1,())).2=true:=by unfold Jpl;rw[hm,decide_eq_true hl];simp
 have fin:∀{l:List Pr} (k:List UInt8),k.length<=10->Jeo l->Ok (J2j k) (λa=>Ok (J4u l a) λu=>Ok (J2j k) λv=>True/\True/\(Jm6 ((Jpl s.1 (v,u.1,())).1,s.2.1,s.2.2.1,())/\(Jpl s.1 (v,u.1,())).1.length<=s.1.length+1)/\True/\SetV n V):=λk hk hl=>by
  have:=hl.2.1
  exact Ok.eq (Jkx k (by omega)) (Ok.eq (Jfx _ hl.1 (by omega) _) (Ok.eq (Jkx k (by omega)) ⟨trivial,trivial,set _,trivial,hV⟩))
 obtain⟨d1,d2,d3⟩:=Kfw hs.1 (k:=t.2.1) (by omega) t.2.2.2.1 t.2.2.2.2.1
 unfold J4t J6g J6f J0o J0o_1
 simp only[wp,Jkc s (by omega),Jh2 [(t.2.1,t.2.2.1,())] (by simp),hr,Kv s hs,Kan s hs,h2]
 refine⟨λ_=>⟨by simp,λ_=>(K94 _).imp λ_ _=>⟨λ_=>⟨trivial,trivial,h0,trivial,hV⟩,λ_=>⟨by simp,λ_=>⟨trivial,trivial,set _,trivial,hV⟩⟩⟩⟩,λ_=>⟨λ_=>(K94 _).imp λ_ _=>⟨λ_=>⟨trivial,trivial,h0,trivial,hV⟩,λ_=>⟨trivial,trivial,⟨st_del hs _,by have:=Jym s.1 t.2.1;omega⟩,trivial,hV⟩⟩,λ_=>⟨λ_=>⟨λ_=>⟨trivial,trivial,h0,trivial,hV⟩,λp1=>⟨λ_=>⟨trivial,trivial,h0,trivial,hV⟩,λp2=> ?_⟩⟩,λ_=>⟨λ_=>d1.imp λu hu=>⟨λ_=>fin t.2.1 (by omega) hu,λ_=>⟨trivial,trivial,h0,trivial,hV⟩⟩,λ_=>⟨λ_=>d2.imp λu hu=>⟨λ_=>fin t.2.1 (by omega) hu,λ_=>⟨trivial,trivial,h0,trivial,hV⟩⟩,λ_=>⟨λ_=>d3.imp λu hu=>⟨λ_=>fin t.2.1 (by omega) hu,λ_=>⟨trivial,trivial,h0,trivial,hV⟩⟩,λ_=>by omega⟩⟩⟩⟩⟩⟩
 refine(Jeg (Q:=λo=>match o with| .inl o=>o.2.2.1=D/\o.2.2.2.1=K/\o.2.2.2.2.2.1=s/\o.2.2.2.2.2.2.1=B/\SetV n o.2.2.2.2.2.2.2| .inr o=>o.2.1=D/\o.2.2.1=K/\o.2.2.2.1=V/\o.2.2.2.2.1=s/\o.2.2.2.2.2=B) (λi:Int=>0<=i/\i<=V.length) (λi=>V.length - i) (by simp) λi hi=> ?_).imp λo ho=> ?_
 ·have e1:=oX (i+1)
  simp only[J0o_1_step,J3,wp,e1]
  refine⟨λc=>⟨by omega,λ_=>⟨by omega,by omega,by trivial,by trivial,by trivial,by trivial,⟨by rw[List.length_set];exact hv,λv hm=> ?_⟩,by rw[List.length_set];exact hV.2⟩,λ_=>by omega⟩,λ_=>by simp⟩
  have hg:=hV.1.2 _ (Jb0 hi.1 c (([]:List UInt8),(0:Int),List.replicate 32 (0:UInt8),()))
  rcases List.mem_or_eq_of_mem_set hm with hm|rfl
  ·exact hV.1.2 v hm
  ·exact⟨hg.1,hg.2.1,by dsimp only;omega,by dsimp only;omega⟩
 ·cases o with
  |inl o=>obtain⟨o1,o2,o3,o4,o5⟩:=ho;exact Jkk.2 ⟨o1,o2,by rw[o3];exact h0,o4,o5⟩
  |inr o=>obtain⟨o1,o2,o3,o4,o5⟩:=ho;exact Jkk.2 ⟨o1,o2,by rw[o4];exact h0,o5,by rw[o3];exact hV⟩
theorem Kbe(B:List α) b z (h:i<B.length):(B++[b]).getD i z=B.getD i z:=by
 rw[List.getD_eq_getElem?_getD,List.getD_eq_getElem?_getD,List.getElem?_append_left h]
theorem K9e(h:LiT B c) b:LiT (B++[b]) c:=⟨h.1,λx hx=>by
 obtain⟨i,hi,e⟩:=h.2.1 x hx
 exact⟨i,by simp;omega,by rw[Kbe _ _ _ hi];exact e⟩,h.2.2⟩
theorem K0y(hB:Kcm n B)(hV:SetV n V)(hs:Jm6 s)(t:Int):Ok (J9 t () (J8t n) (J8x n) V s B) (λ(_,_,D',K',V',s',B')=>D'=J8t n/\K'=J8x n/\V'=V/\(Jm6 s'/\s'.1=s.1)/\Kcm n B'/\(B'=B\/∃b,B'=B++[b])):=by
 obtain⟨hB1,hB2⟩:=hB
 have hB:Kcm n B:=⟨hB1,hB2⟩
 have hr:=hs.1.2.1
 have hv:=hV.1.1
 have e1:=oX ((B.length:Int)+1)
 have e2:=oX ((B.length:Int) - 1)
 obtain⟨b1,b2,b3,b4⟩:=hB2 (B.length - 1) (by omega)
 have z:(((0:Int),(0:Int),(List.replicate 32 (0:UInt8)),(List.replicate 32 (0:UInt8)),(List.replicate 32 (0:UInt8)),(List.replicate 32 (0:UInt8)),()),([]:List J9q),([]:List Val),([]:List Val),())=Jtc:=rfl
 unfold J9 J3 J14
 simp only[wp,Jkc s (by omega),Jkd s.1 (Jxs hs.1),Jbc V (Jlb hV.1),Jfc,e1,e2,z,show((B.length:Int) - 1).toNat=B.length - 1 from by omega]
 generalize B.getD (B.length - 1) Jtc=lb at b1 b2 b3 b4⊢
 simp only[Jis lb.1 b1.1,Jbc lb.2.2.2.1 (Jlb b1.2.2.2),wp]
 have q1:=b1.2.2.2.1
 refine⟨λ_=>⟨trivial,trivial,trivial,⟨hs,trivial⟩,hB,.inl trivial⟩,λhR=>⟨λ_=>⟨by omega,λ_=>⟨trivial,trivial,trivial,⟨hs,trivial⟩,hB,.inl trivial⟩,λ_=>⟨by omega,by omega, ?_⟩⟩,λ_=>by omega⟩⟩
 have hR:=(Jba _).1 hR
 dsimp only at hR
 obtain⟨h,hh⟩:∃h:Hdr,h=((B.length:Int)+1,t,Jcu s.1,setH lb.2.2.2.1,setH V,sha (72::Jf1 lb.1),()):=⟨_,rfl⟩
 rw[<-hh]
 have h1:h.1=(B.length:Int)+1:=by rw[hh]
 have h2:Jb3 h:=by rw[hh];exact⟨Ja8 _,Jaq _,Jaq _,Ja8 _⟩
 have h3:Jav h=true:=by rw[Jba,hh];exact hR
 refine(Jeg (Q:=λ(_,D',K',V',s',B',g,_,sg,a,b)=>D'=J8t n/\K'=J8x n/\V'=V/\s'=s/\B'=B/\g=h/\SgT sg/\a=lb.2.2.2.1/\b=V) (λi:Int×List J9q=>0<=i.1/\i.1<=lb.2.2.2.1.length/\(i.2.length:Int)<=i.1/\∀x∈i.2,x.1.length<=100/\Jr1 x.2.1) (λi=>lb.2.2.2.1.length - i.1) ⟨by simp,by simp,by simp,by simp⟩ λi hi=> ?_).imp λo ho=> ?_
 ·obtain⟨i1,i2,i3,i4⟩:=hi
  have e3:=oX (i.1+1)
  simp only[J9_1_step,wp,e3,Jds,Jhy,List.length_append,List.length_cons,List.length_nil]
  refine⟨λc=>⟨by omega,by omega,by omega, ?_⟩,λ_=>⟨trivial,trivial,trivial,trivial,trivial,trivial,⟨by omega,i4⟩,trivial,trivial⟩⟩
  have g1:(J8t n).getD i.1.toNat (List.replicate 32 (0:UInt8))=Jcn i.1.toNat:=Jaf _ _ (by omega)
  have g2:(J8x n).getD i.1.toNat []=Jc0 (Jcn i.1.toNat):=Jaf _ _ (by omega)
  rw[g1,g2]
  have hn:=(b1.2.2.2.2 _ (Jb0 i1 c (([]:List UInt8),(0:Int),List.replicate 32 (0:UInt8),()))).1
  exact Ok.eq (Jsy h h2 (by omega) (by omega) _ _) ⟨by omega,⟨by omega,by omega,by omega,Jcy i4 ⟨hn,K6d h (by omega) (by omega) _ _⟩⟩,by omega,by omega⟩
 ·obtain⟨o1,o2,o3,o4,o5,o6,o7,o8,o9⟩:=ho
  simp only[o1,o2,o3,o4,o5,o6,o8,o9,Jj2 s hs,wp,List.length_cons,List.length_nil]
  have hc:=Jp1 hs
  refine⟨by omega,by omega,trivial,trivial,trivial,⟨hc, ?_⟩,⟨⟨by simp,by simp;omega⟩,λi hi=> ?_⟩,.inr ⟨_,rfl⟩⟩
  ·unfold Jim;split<;>rfl
  ·by_cases q:i<B.length
   ·rw[Kbe _ _ _ q];exact hB2 i q
   ·have:i=B.length:=by simp at hi;omega
    rw[this,List.getD_eq_getElem?_getD]
    simp
    exact⟨⟨h2,o7,b1.2.2.2,hV.1⟩,h3,h1,hV.2⟩
theorem Kbs:∀(k i a:Nat) (l:List UInt8),0<=(K1d k i a l).1/\(K1d k i a l).2.1.length<=l.length
 |0,_,_,l=>by simp[K1d]
 |k+1,i,a,[]=>by simp[K1d]
 | k+1,i,a,b::l=>by
  have:=Kbs k (i+1) (a+(b.toNat%128)*128^i) l
  unfold K1d
  split
  ·split
   ·simp
   ·exact⟨Int.natCast_nonneg _,by simp⟩
  ·simp;omega
theorem K1e(r:Rdr):0<=(Jzm r).1/\(Jzm r).2.1.length<=r.1.length:=by
 unfold Jzm
 split
 ·simp
 ·exact Kbs _ _ _ _
section
variable {r : Rdr} {L : Nat} (h : r.1.length ≤ L)
include h
theorem Kc9(hn:0<=n):Ok (J1s n r) (λo=>(o.1.length:Int)<=n/\o.1.length<=L/\o.2.1.length<=L):=by
 simp only[J1s,wp,Ja1,List.length_take,List.length_drop,List.length_nil]
 repeat' first|omega|intro _|with_reducible apply And.intro
theorem K66:Ok (J41 r) (λo=>o.1.length<=L/\o.2.1.length<=L):=by
 simp only[J41,wp,number_eq]
 have:=K1e r
 exact(Kc9 (r:=(Jzm r).2) (L:=L) (by omega) this.1).imp λo ho=>ho.2
theorem K4o(m:Int)(hm:0<=m):Ok (J4a m r) (λo=>o.1<=m/\o.2.1.length<=L):=by
 simp only[J4a,wp,number_eq]
 have:=K1e r
 exact⟨λ_=>by omega,λ_=>by omega⟩
theorem Kbu:Ok (J5g r) (λo=>o.2.1.length<=L):=by
 simp only[J5g,wp]
 exact(K66 h).imp λu hu=>(K66 hu.2).imp λv hv=>hv.2
theorem path_T:Ok (J1l r) (λo=>(o.1.length<=1000/\∀y∈o.1,y.length=32)/\o.2.2.1.length<=L):=by
 simp only[J1l,wp]
 refine(K4o h 32 (by omega)).imp λu hu=>⟨λ_=>⟨⟨by simp,by simp⟩,hu.2⟩,λ_=> ?_⟩
 refine Jeg (Q:=λo:Rdr×List (List UInt8)=>(o.2.length<=1000/\∀y∈o.2,y.length=32)/\o.1.1.length<=L) (λs:Int×Rdr×List (List UInt8)=>0<=s.1/\s.1+s.2.2.length<=32/\(∀y∈s.2.2,y.length=32)/\s.2.1.1.length<=L) (λs=>s.1) ⟨by omega,by simp;omega,by simp,hu.2⟩ λs hs=> ?_
 obtain⟨i1,i2,i3,i4⟩:=hs
 have e1:w64 (s.1 - 1)=s.1 - 1:=oW
 have out:(s.2.2.length<=1000/\∀y∈s.2.2,y.length=32)/\s.2.1.1.length<=L:=⟨⟨by omega,i3⟩,i4⟩
 simp only[J1l_1_step,J22,J66,wp,List.length_append,List.length_cons,List.length_nil]
 exact⟨λc=>⟨λ_=>(Kc9 i4 (show(0:Int)<=32 by omega)).imp λu hu=>⟨by omega,⟨by omega,by omega,Jcy i3 (by simp;omega),hu.2.2⟩,by omega,by omega⟩,λ_=>out⟩,λ_=>out⟩
end
def RdT(x:K0a):Prop:=x.2.2.1.length<=30/\x.2.2.2.1.2.2.1.length<=30/\x.2.2.2.1.2.2.2.1.length<=30/\∀p∈x.2.2.2.1.2.2.2.1,p.length<=1000/\∀y∈p,y.length=32
theorem Kcy(h:r.1.length<=L):Ok (J07 r) (λo=>RdT o.1):=by
 simp only[J07,wp,number_eq,Kdd]
 have n1:=K1e r;have n2:=K1e (Jzm r).2
 refine(K4o (r:=(Jzm (Jzm r).2).2) (L:=L) (by omega) 30 (by omega)).imp λa ha=> ?_
 refine(Jeg (Q:=λo=>o.2.1.1.length<=L/\o.2.2.2.2.2.2.2.2.2.2.2.2.2.2.length<=30) (λs:Int×Rdr×List Pr=>(s.2.2.length:Int)<=30/\s.1+s.2.2.length<=30/\s.2.1.1.length<=L) (λs=>s.1) ⟨by simp,by simp;omega,ha.2⟩ λs hs=> ?_).imp λo ho=> ?_
 ·obtain⟨i1,i2,i3⟩:=hs
  simp only[J07_1_step,J22,wp,List.length_append,List.length_cons,List.length_nil]
  refine⟨λc=> ?_,λ_=>⟨i3,by omega⟩⟩
  rw[oX (s.1 - 1)]
  exact⟨λ_=>(Kbu i3).imp λu hu=>⟨by omega,⟨by omega,by omega,hu⟩,by omega,by omega⟩,λ_=>⟨i3,by omega⟩⟩
 obtain⟨o1,o2⟩:=ho
 have n3:=K1e o.2.1;have n4:=K1e (Jzm o.2.1).2
 refine(K4o (r:=(Jzm (Jzm o.2.1).2).2) (L:=L) (by omega) 30 (by omega)).imp λb hb=> ?_
 have lp:∀t x3 x4 x5 x6 x7 x8 x9 x10 x11 x12 x13 x14,Ok (loop (λ(s:Int×Bool×Rdr×List Pr×List (List (List UInt8)))=>J07_2_step s.1 s.2.1 s.2.2.1 x3 x4 x5 x6 x7 x8 x9 x10 x11 x12 x13 x14 o.2.2.2.2.2.2.2.2.2.2.2.2.2.2 s.2.2.2.1 s.2.2.2.2) (b.1,t,b.2,[],[])) (λo=>o.2.2.2.2.2.2.2.2.2.2.2.2.2.2.1.length<=30/\o.2.2.2.2.2.2.2.2.2.2.2.2.2.2.2.1.length<=30/\o.2.2.2.2.2.2.2.2.2.2.2.2.2.2.2.2.length<=30/\∀p∈o.2.2.2.2.2.2.2.2.2.2.2.2.2.2.2.2,p.length<=1000/\∀y∈p,y.length=32):=λt x3 x4 x5 x6 x7 x8 x9 x10 x11 x12 x13 x14=>by
  refine Jeg (λs:Int×Bool×Rdr×List Pr×List (List (List UInt8))=>(s.2.2.2.1.length:Int)<=30/\s.1+s.2.2.2.1.length<=30/\s.2.2.1.1.length<=L/\s.2.2.2.2.length=s.2.2.2.1.length/\∀p∈s.2.2.2.2,p.length<=1000/\∀y∈p,y.length=32) (λs=>s.1) ⟨by simp,by simp;omega,hb.2,by simp,by simp⟩ λs hs=> ?_
  obtain⟨i1,i2,i3,i4,i5⟩:=hs
  simp only[J07_2_step,J22,wp,List.length_append,List.length_cons,List.length_nil]
  have out:=(⟨o2,by omega,by omega,i5⟩:o.2.2.2.2.2.2.2.2.2.2.2.2.2.2.length<=30/\s.2.2.2.1.length<=30/\s.2.2.2.2.length<=30/\∀p∈s.2.2.2.2,p.length<=1000/\∀y∈p,y.length=32)
  refine⟨λc=> ?_,λ_=>out⟩
  rw[oX (s.1 - 1)]
  exact⟨λ_=>(Kbu i3).imp λu hu=>⟨by omega,(path_T hu).imp λv hv=>⟨by omega,λ_=>⟨⟨by omega,by omega,hv.2,by omega,Jcy i5 hv.1⟩,by omega,by omega⟩,λ_=>⟨⟨by omega,by omega,hv.2,by omega,Jcy i5 hv.1⟩,by omega,by omega⟩⟩⟩,λ_=>out⟩
 exact⟨λ_=>(lp _ _ _ _ _ _ _ _ _ _ _ _ _).imp λo ho=>⟨λ_=>ho,λ_=>ho⟩,λ_=>(lp _ _ _ _ _ _ _ _ _ _ _ _ _).imp λo ho=>⟨λ_=>ho,λ_=>ho⟩⟩
theorem Kb4(hl:l.length<=30):Ok (J3k l) (λb=>b=true->∀p∈l,p.1.length<=255/\p.2.1.length<=255):=by
 simp only[J3k,wp]
 refine(Jeg (Q:=λo:Bool⊕List Pr=>match o with| .inl b=>b=false| .inr m=>∀p∈l,p.1.length<=255/\p.2.1.length<=255) (λi:Int=>0<=i/\i<=l.length/\∀p∈l.take i.toNat,p.1.length<=255/\p.2.1.length<=255) (λi=>l.length - i) ⟨by simp,by simp,by simp⟩ λi hi=> ?_).imp λo ho=> ?_
 ·obtain⟨i1,i2,i3⟩:=hi
  have e1:=oX (i+1)
  simp only[J3k_1_step,wp,e1]
  refine⟨λc=>⟨by omega,λ_=>by trivial,λq1=>⟨λ_=>by trivial,λq2=>⟨⟨by omega,by omega, ?_⟩,by omega,by omega⟩⟩⟩,λc=>by rwa[List.take_of_length_le (by omega)]at i3⟩
  have e2:l.take (i+1).toNat=l.take i.toNat++[l.getD i.toNat (([]:List UInt8),([]:List UInt8),())]:=by
   rw[show(i+1).toNat=i.toNat+1 by omega,List.take_add_one,List.getD_eq_getElem?_getD,List.getElem?_eq_getElem (by omega)];rfl
  rw[e2];exact Jcy i3 ⟨by omega,by omega⟩
 ·cases o with
  |inl b=>exact Jkk.2 (by simp[show b=false from ho])
  |inr m=>exact Jkk.2 λ_=>ho
def TlT(x:K0a):Prop:=(∀p∈x.2.2.1,p.1.length<=255/\p.2.1.length<=255)/\(∀p∈x.2.2.2.1.2.2.1,p.1.length<=255/\p.2.1.length<=255)/\x.2.2.2.1.2.2.2.1.length=x.2.2.2.1.2.2.1.length
theorem K6v(hx:RdT x):Ok (J0t x) (λb=>b=true->TlT x):=by
 obtain⟨x1,x2,x3,x4⟩:=hx
 simp only[J0t,wp]
 refine(Jeg (Q:=λo:Bool⊕K0a=>match o with| .inl b=>b=false| .inr m=>m=x) (λi:Int=>0<=i/\i<=4) (λi=>4 - i) (by simp) λi hi=> ?_).imp λo ho=> ?_
 ·have e1:=oX (i+1)
  simp only[J0t_1_step,wp,e1,List.length_cons,List.length_nil]
  repeat' first|trivial|omega|intro _|with_reducible apply And.intro
 cases o with
 |inl b=>exact Jkk.2 (by simp[show b=false from ho])
 | inr m=>
  obtain rfl:m=x:=ho
  simp only[wp]
  refine(Jeg (Q:=λo:Bool⊕K0a=>match o with| .inl b=>b=false| .inr y=>y=m) (λi:Int=>0<=i/\i<=m.2.2.2.1.2.2.2.1.length) (λi=>m.2.2.2.1.2.2.2.1.length - i) (by simp) λi hi=> ?_).imp λo ho=> ?_
  ·have e1:=oX (i+1)
   simp only[J0t_2_step,wp,e1]
   repeat' first|trivial|omega|intro _|with_reducible apply And.intro
  cases o with
  |inl b=>exact Jkk.2 (by simp[show b=false from ho])
  |inr y=>
   obtain rfl:y=m:=ho
   simp only[wp]
   exact(Kb4 x1).imp λu hu=>⟨λu1=>(Kb4 x2).imp λv hv=>⟨λv1 q=>⟨hu u1,hv v1,by omega⟩,λ_=>by simp⟩,λ_=>by simp⟩
theorem K7r(hx:RdT x)(ht:TlT x):Ok (J0s x) (λ_=>True):=by
 obtain⟨x1,x2,x3,x4⟩:=hx
 obtain⟨t1,t2,t3⟩:=ht
 have pl:∀l:List Int,l.length<=3->Ok (J16 l) (λr=>r.length<=21):=λl hl=>Ok.eq (put_eq l (by omega)) (by
  unfold Jdf
  match l,hl with
  |[],_=>simp
  |[a],_=>have:=J9o a;simp;omega
  |[a,b],_=>have:=J9o a;have:=J9o b;simp;omega
  |[a,b,c],_=>have:=J9o a;have:=J9o b;have:=J9o c;simp;omega)
 have tl:∀a b:List UInt8,a.length<=255/\b.length<=255->Ok (J1w [a,b]) (λr=>r.length<=600):=λa b h=>Ok.eq (Jt6 _ (by simp) (by intro x hx;simp at hx;rcases hx with rfl|rfl<;>omega)) (by
  have:=Jgb a;have:=Jgb b;simp;omega)
 simp only[J0s,J0s_1,J0s_2,wp]
 refine(K6v ⟨x1,x2,x3,x4⟩).imp λ_ _=>⟨λ_=>trivial,λ_=>(pl _ (by simp)).imp λu hu=>(Jeg (Q:=λo:K0a×List UInt8=>o.1=x/\o.2.length<=20000) (λs:Int×List UInt8=>0<=s.1/\s.1<=x.2.2.1.length/\s.2.length<=21+600*s.1) (λs=>x.2.2.1.length - s.1) ⟨by simp,by simp,by simp;omega⟩ λs hs=> ?_).imp λo ho=> ?_⟩
 ·obtain⟨i1,i2,i3⟩:=hs
  have e1:=oX (s.1+1)
  simp only[J0s_1_step,wp,e1,List.length_append]
  exact⟨λc=>⟨by omega,(tl _ _ (t1 _ (Jb0 i1 c _))).imp λv hv=>by omega⟩,λ_=>⟨by trivial,by omega⟩⟩
 obtain⟨o1,o2⟩:=ho
 simp only[o1]
 refine(pl _ (by simp)).imp λv hv=>⟨by omega,Jeg (Q:=λ_=>True) (λs:Int×List UInt8=>0<=s.1/\s.1<=x.2.2.2.1.2.2.1.length/\s.2.length<=30000+40000*s.1) (λs=>x.2.2.2.1.2.2.1.length - s.1) ⟨by simp,by simp,by simp;omega⟩ λs hs=> ?_⟩
 obtain⟨i1,i2,i3⟩:=hs
 have e1:=oX (s.1+1)
 simp only[J0s_2_step,wp,e1,List.length_append]
 refine⟨λc=>⟨by omega,(tl _ _ (t2 _ (Jb0 i1 c _))).imp λa ha=>⟨by omega,by omega,(pl _ (by simp)).imp λb hb=>⟨by omega, ?_⟩⟩⟩,λ_=>trivial⟩
 have hp:=x4 _ (Jb0 i1 (by omega) [])
 generalize x.2.2.2.1.2.2.2.1.getD _ _=p at hp
 exact Ok.eq (Jww p (by omega) hp.2) (by
  have hf:p.flatten.length=32*p.length:=by
   have:=hp.2
   clear hp
   induction p with
   |nil=>rfl
   |cons a r ih=>have h1:=this a (by simp);have h2:=ih (λy hy=>this y (by simp[hy]));simp[h1,h2];omega
  omega)
theorem K2x(h:b.length<=100000000):Ok (J6t b) (λo=>o.2=0->RdT o.1):=by
 simp only[J6t,J6n,J7u,wp,List.length_nil]
 refine⟨by omega,(Kcy (r:=(b,false,())) h).imp λx hx=>⟨λ_=>by simp,λ_=>(K6v hx).imp λu hu=>⟨λ_=>by simp,λu1=>(K7r hx (hu u1)).imp λy _=>⟨λ_=>by simp,λ_ _=>hx⟩⟩⟩⟩
structure PwT(n k:Nat)(now q:Int)(D:List (List UInt8))(K:List (List (List UInt8)))(V:List Val)(s:Stt)(B:List Block)(c:Cli)(r:Int×Int×Int×Unit)(e:List (Int×Ent))(ca:List (Int×Ce))(cq:List Jd5×Unit)(mi:Mir)(x y z:Int)(us:Um)(ac:List Jd5):Prop where
 f_now:0<=now/\now<=1073741824
 f_q:0<=q/\q<=(k:Int)+1
 f_D:D=J8t n
 f_K:K=J8x n
 f_V:SetV n V
 f_s:Jm6 s/\s.1.length<=k
 f_B:Kcm n B
 f_c:LiT B c
 f_r:0<=r.1/\r.1<=(k:Int)+1
 f_e:e.length<=6
 f_ca:CaT ca
 f_cq:CqT cq
 f_mi:K7k mi
 f_led:Jc6 x y z us
 f_ac:ac.length<=200*k
theorem Keg{k:Nat}(hk:k<=100)(hr:0<=r.1/\r.1<=(k:Int)+1)(he:e.length<=6) q c ca cq mi x y z b us:Ok (J4j q () c r e () ca cq mi x y z b () us) (λo=>(o.2.1=0->0<=o.1/\o.1<=(k:Int)+2)/\(0<=o.2.2.1.1/\o.2.2.1.1<=(k:Int)+2)/\o.2.2.2.length<=6):=by
 have e1:=oX (r.1+1)
 have hq:Ok (J7m q) (λ_=>True):=by
  simp only[J7m,wp];repeat' first|trivial|intro _|with_reducible apply And.intro
 simp only[J4j,J42,wp]
 refine hq.imp λ_ _=>⟨λ_=>⟨by simp,by omega,he⟩,λ_=>⟨λ_=>⟨by simp,by omega,he⟩,λ_=>⟨λ_=>by omega,by omega, ?_⟩⟩⟩
 exact Nat.le_trans (Kc1 _) (by omega)
theorem K9n{e:List (Int×Ent)}(he:e.length<=6){ca:List (Int×Ce)}(hca:CaT ca)(i:Int)(r:Int×Int×Int×Unit)(c:Cli)(cq:List Jd5×Unit)(mi:Mir)(x y z:Int)(b:Bool)(us:Um):Ok (J4e i () c r e () ca cq mi x y z b () us) (λo=>o.2.1.length<=6/\CaT o.2.2):=by
 have h1:(Ja7 (Ty.beq (.int .i64)) i e).length<=6:=Nat.le_trans (Jyk _) he
 have h2:CaT (Ja7 (Ty.beq (.int .i64)) i ca):=λx hx=>hca x (Jyl hx)
 simp only[J4e,J5j,J64,wp]
 repeat' first|exact he|exact h1|exact hca|exact h2|intro _|with_reducible apply And.intro
theorem K9q{ca:List (Int×Ce)}(hca:CaT ca) i j (e:List (Int×Ent)) (r:Int×Int×Int×Unit) (c:Cli) (cq:List Jd5×Unit) (mi:Mir) (x y z:Int) (b:Bool) (us:Um):Ok (J4f i j () c r e () ca cq mi x y z b () us) (λ_=>True):=by
 simp only[J4f,J23,J68,wp,Jtu (Kd3 hca i)]
 repeat' first|trivial|intro _|with_reducible apply And.intro
theorem pdo_ok{n k:Nat}(hk:k<30){now q:Int}{V:List Val}{s:Stt}{B:List Block}{c:Cli}{r:Int×Int×Int×Unit}{e:List (Int×Ent)}{ca:List (Int×Ce)}{cq:List Jd5×Unit}{mi:Mir}{x y z:Int}{us:Um}{ac:List Jd5}(h:PwT n k now q D K V s B c r e ca cq mi x y z us ac){o:Opt}(ho:OqT o)(b:Bool):
  Ok (Jv o now q () () D K V s B () c r e () ca cq mi x y z b () us ac) (λ(_,now,q,_,_,D,K,s,_,c,r,e,_,ca,cq,mi,x,y,z,_,_,us,V,B,ac)=>PwT n (k+1) now q D K V s B c r e ca cq mi x y z us ac):=by
 obtain⟨g1,g2,rfl,rfl,g5,⟨g6,g6'⟩,g7,g8,g9,g10,g11,g12,g13,g14,g15⟩:=h
 obtain⟨⟨ht,hq⟩,hk2,hb⟩:=ho
 have a1:0<=q/\q<=((k+1:Nat):Int)+1:=by omega
 have a2:0<=r.1/\r.1<=((k+1:Nat):Int)+1:=by omega
 have a3:Jm6 s/\s.1.length<=k+1:=⟨g6,by omega⟩
 have a4:ac.length<=200*(k+1):=by omega
 have same:∀{now},0<=now/\now<=1073741824->PwT n (k+1) now q (J8t n) (J8x n) V s B c r e ca cq mi x y z us ac:=λhn=>⟨hn,a1,rfl,rfl,g5,a3,g7,g8,a2,g10,g11,g12,g13,g14,a4⟩
 have resp:∀{u:Int×Cli×List (Int×Ent)×List (Int×Ce)×(List Jd5×Unit)×List Jd5},CoT c (u.1,u.2.1,u.2.2.1,u.2.2.2.1,u.2.2.2.2.1)/\u.2.2.2.2.2.length<=ac.length+1->PwT n (k+1) now q (J8t n) (J8x n) V s B u.2.1 r u.2.2.1 u.2.2.2.1 u.2.2.2.2.1 mi x y z us u.2.2.2.2.2:=λ{u} ⟨⟨u1,u2,u3,u4⟩,u5⟩=>⟨g1,a1,rfl,rfl,g5,a3,g7,by rw[show u.2.1=c from u1];exact g8,a2,u2,u3,u4,g13,g14,by omega⟩
 unfold Jv J4d J56 J4s
 simp only[wp]
 refine⟨λq1=>(hdo_ok (ht q1) g6 (by omega) g5 _ _ _).imp λu hu=> ?_,λ_=>⟨λ_=>(K0y g7 g5 g6 _).imp λu hu=> ?_,λ_=>⟨λ_=>⟨λ_=>same g1,λ_=>⟨λ_=>same g1,λ_=>same (by omega)⟩⟩,λ_=>⟨λ_=>(K9 g7 g8 g1 _ _ _ _ _ _ _ _ _ _ _ _ _ _ _ _ _).imp λu hu=>⟨g1,a1,rfl,rfl,g5,a3,g7,hu,a2,g10,g11,g12,g13,g14,a4⟩,λ_=>⟨λ_=>(K5d g13 g14 g10 g12 _ _ _ _).imp λu hu=> ?_,λ_=>⟨λ_=>(Keg (by omega) g9 g10 _ _ _ _ _ _ _ _ _ _).imp λu hu=> ?_,λ_=>⟨λ_=>(K9n g10 g11 _ _ _ _ _ _ _ _ _ _).imp λu hu=>⟨g1,a1,rfl,rfl,g5,a3,g7,g8,a2,hu.1,hu.2,g12,g13,g14,a4⟩,λ_=>⟨λ_=>(K5b g7 g8 g1 g10 g11 g12 g6 _ _ _ _ _ _ _ _ _ _ _ (by omega) _ _).imp λu hu=>resp hu,λ_=>⟨λ_=>(K2x hb).imp λX hX=>⟨λq1=>(Jzv g7 g8 g1 g10 g11 g12 ⟨⟨(hX q1).2.2.2,by have:=(hX q1).2.1;omega,by have:=(hX q1).2.2.1;omega⟩,by have:=(hX q1).1;omega⟩ _ _ _ _ _ _ _ (by omega) _ _ _ _ _).imp λu hu=>resp hu,λ_=>same g1⟩,λ_=>⟨λ_=> ?_,λ_=>⟨λ_=> ?_,λ_=>⟨λ_=>(K9q g11 _ _ _ _ _ _ _ _ _ _ _ _).imp λ_ _=>same g1,λ_=>⟨λ_=>(K5h g7 g8 g1 g10 g11 g12 g6 _ _ _ _ _ _ _ _ _ _ _ (Nat.le_refl _) (by omega) (by omega)).imp λu hu=> ?_,λ_=>by omega⟩⟩⟩⟩⟩⟩⟩⟩⟩⟩⟩⟩⟩
 ·obtain⟨u1,u2,⟨u3,u4⟩,u5,u6⟩:=hu
  exact⟨g1,a1,u1,u2,u6,⟨u3,Nat.le_trans u4 (Nat.succ_le_succ g6')⟩,by rw[u5];exact g7,by rw[u5];exact g8,a2,g10,g11,g12,g13,g14,a4⟩
 ·obtain⟨u1,u2,u3,⟨u4,u5⟩,u6,u7⟩:=hu
  have hc:LiT u.2.2.2.2.2.2 c:=by
   rcases u7 with e|⟨b,e⟩
   ·rw[e];exact g8
   ·rw[e];exact K9e g8 _
  have fin:PwT n (k+1) now q u.2.2.1 u.2.2.2.1 u.2.2.2.2.1 u.2.2.2.2.2.1 u.2.2.2.2.2.2 c r e ca cq mi x y z us ac:=⟨g1,a1,u1,u2,by rw[u3];exact g5,⟨u4,by rw[u5];omega⟩,u6,hc,a2,g10,g11,g12,g13,g14,a4⟩
  exact⟨λ_=>fin,λ_=>fin⟩
 ·obtain⟨u1,u2,u3,u4,u5,u6,u7,u8,u9,u10⟩:=hu
  exact⟨g1,a1,rfl,rfl,g5,a3,g7,by rw[u1];exact g8,by rw[u2];exact a2,u3,by rw[u4];exact g11,u5,u6,by rw[u8,u9,u10];exact u7,a4⟩
 ·obtain⟨u1,u2,u3⟩:=hu
  exact⟨λq1=>⟨g1,by have:=u1 q1;omega,rfl,rfl,g5,a3,g7,g8,by omega,u3,g11,g12,g13,g14,a4⟩,λ_=>⟨g1,a1,rfl,rfl,g5,a3,g7,g8,by omega,u3,g11,g12,g13,g14,a4⟩⟩
 ·obtain⟨i,j,p,a,m,e,hl,_⟩:=Ke9 g14 o.2.2.2.1 o.2.1 b ()
  exact Ok.eq e ⟨g1,a1,rfl,rfl,g5,a3,g7,g8,a2,g10,g11,g12,g13,hl,a4⟩
 ·obtain⟨i,j,p,a,m,e,hl,_⟩:=K5u g14 o.2.2.2.1 o.2.1 b ()
  exact Ok.eq e ⟨g1,a1,rfl,rfl,g5,a3,g7,g8,a2,g10,g11,g12,g13,hl,a4⟩
 ·obtain⟨⟨s1,s2,s3,s4,s5⟩,u1,u2,u3,u4,u5,u6,u7,u8,u9,u10,u11,u12,u13⟩:=hu
  exact⟨by rw[u1];exact g1,by rw[u2];exact a1,u3,u4,by rw[u5];exact g5,by rw[u6];exact a3,by rw[u7];exact g7,by rw[u7];exact s1,by rw[u8];exact a2,s2,s3,s4,by rw[u9];exact g13,by rw[u10,u11,u12,u13];exact g14,Nat.le_trans s5 (by omega)⟩
theorem pw0(hp:Jkn p)(hq:∀i,p i<=9)(h1:1<=n)(hn:n<=4)(T:Int):PwT n 0 1 1 (J8t n) (J8x n) (J8s p n) (stR [] [[]]) (BL n p fI [[]]) ([hL n p fI [[]] 0],J8s p n,T,false,()) (1,0,0,()) (Jap gM 0 1) [] ([],()) (0,0,[],false,()) 0 0 0 [] []:=by
 have hV:=K5x hp hq hn
 have hb:(BL n p fI [[]]).getD 0 Jtc=gL n p fI [[]] 0:=Kck n p fI [[]] (by simp)
 have hl:(BL n p fI [[]]).length=1:=Jy8 n p fI [[]]
 have hh:Jb3 (hL n p fI [[]] 0):=Jni n _ fI (K5l [[]] 0)
 have hr:Jav (hL n p fI [[]] 0)=true:=Jmc (by omega) (by unfold fI;omega) (by unfold fI;omega)
 have h3:(hL n p fI [[]] 0).1=((0:Nat):Int)+1:=Kdt _ _ _ _ _
 refine⟨by omega,by omega,rfl,rfl,⟨hV,Jbr p n⟩,⟨K6p Jk3 Jow (by simp),by simp[stR]⟩,⟨by omega,λi hi=> ?_⟩,⟨by simp,λx hx=>⟨0,by omega,by rw[List.mem_singleton.1 hx];rfl⟩,hV,rfl⟩,by simp,by simp[Jap],λx hx=>by simp at hx,⟨by simp,by simp⟩,by simp,led0,by simp⟩
 obtain rfl:i=0:=by omega
 exact⟨⟨hh,Kfj (hL n p fI [[]] 0) (by rw[h3];decide) (by rw[h3];decide) hn,hV,hV⟩,hr,h3,Jbr p n⟩
theorem Kej(hn:n<=4) l {e:List (Int×Ent)} {ca:List (Int×Ce)} {cq:List Jd5×Unit} {mi:Mir} {x y z:Int} {b:Bool} {us:Um} {ac:List Jd5} (h:PwT n 0 now q D K V s B c r e ca cq mi x y z us ac) {w:RW} (hw:RwT n 0 w) (Q:List (Int×Qry)):
  Ok (J1u_1 l 22 0 now q () () D K V s B () c r e () ca cq mi x y z b () us ac w.1 w.2.1 w.2.2.1 w.2.2.2.1 w.2.2.2.2.1 w.2.2.2.2.2.1 w.2.2.2.2.2.2.1 w.2.2.2.2.2.2.2.1 w.2.2.2.2.2.2.2.2.1 w.2.2.2.2.2.2.2.2.2.1 w.2.2.2.2.2.2.2.2.2.2.1 w.2.2.2.2.2.2.2.2.2.2.2.1 w.2.2.2.2.2.2.2.2.2.2.2.2.1 w.2.2.2.2.2.2.2.2.2.2.2.2.2.1 w.2.2.2.2.2.2.2.2.2.2.2.2.2.2.1 w.2.2.2.2.2.2.2.2.2.2.2.2.2.2.2.1 w.2.2.2.2.2.2.2.2.2.2.2.2.2.2.2.2.1 w.2.2.2.2.2.2.2.2.2.2.2.2.2.2.2.2.2 Q) (λ(now,q,_,_,D,K,V,s,B,_,c,r,e,_,ca,cq,mi,x,y,z,_,_,us,ac,_)=>∃k,PwT n k now q D K V s B c r e ca cq mi x y z us ac):=by
 refine Jeg (λ(i,now,q,_,_,D,K,V,s,B,_,c,r,e,_,ca,cq,mi,x,y,z,_,_,us,ac,w1,w2,_,w4,w5,w6,w7,w8,w9,w10,w11,w12,w13,w14,w15,w16,w17,w18,_)=>∃k:Nat,i=k/\k<=22/\PwT n k now q D K V s B c r e ca cq mi x y z us ac/\RwT n k (w1,w2,(),w4,w5,w6,w7,w8,w9,w10,w11,w12,w13,w14,w15,w16,w17,w18)) (λi=>22 - i.1) ⟨0,rfl,by omega,h,hw⟩ λi hi=> ?_
 obtain⟨k,hk,hk2,hP,hR⟩:=hi
 have e1:=oX (i.1+1)
 unfold J1u_1_step
 simp only[wp,e1]
 refine⟨λc1=>⟨λc2=>⟨by omega,(kop_ok hR.2.1.1 hR.2.1.2 (by omega) hR.2.2 _ _ _).imp λo ho=>(K2x ho.2.2).imp λX hX=>(pdo_ok (by omega) hP ho _).imp λu hu=>(wdo_ok hn (by omega) hR ho.1 (λq=>⟨by have:=(hX (of_decide_eq_true q)).1;omega,by have:=(hX (of_decide_eq_true q)).2.1;omega,(hX (of_decide_eq_true q)).2.2.2⟩)).imp λv hv=> ?_⟩,λ_=>⟨k,hP⟩⟩,λ_=>⟨k,hP⟩⟩
 have g:i.1+1=((k+1:Nat):Int):=by omega
 exact⟨λ_=>⟨λ_=>⟨⟨k+1,g,by omega,hu,hv⟩,by omega,by omega⟩,λ_=>⟨⟨k+1,g,by omega,hu,hv⟩,by omega,by omega⟩⟩,λ_=>⟨⟨k+1,g,by omega,hu,hv⟩,by omega,by omega⟩⟩
theorem Kfq(h:Jm6 s):s.2.2.1.length<=6:=by
 have a:=h.2.2.2.1;omega
theorem law_TopChain y0 y1 (w0:Wf (.slice (.int .i64)) y0) (w1:p):J0w y0 y1=some true:=by
 have e8:Jgc (.int .i64)=8:=rfl
 have hl:y0.length<=140737488351232:=by have:=w0.1;rw[e8]at this;omega
 obtain⟨h1,hn⟩:=Kk y0
 obtain⟨b,hb,hf⟩:=begunH y0 hl fI rfl 80 (by omega)
 have hp:=Keo y0
 have hq:=λi=>(pw_b y0 i).2
 suffices H:Ok (J0w y0 y1) (· =true)by obtain⟨a,e,rfl⟩:=H;exact e
 unfold J0w J1u
 simp only[wp,hb]
 refine(Kej hn y1 (pw0 hp hq h1 hn 80) (rw0 hn (K5x hp hq hn) hf 80) _).imp λu hu=> ?_
 obtain⟨k,g1,g2,g3,g4,⟨g5,g5'⟩,⟨g6,g6'⟩,g7,⟨⟨l1,l2⟩,l3,l4,l5⟩,g9,g10,g11,g12,g13,g14,g15⟩:=hu
 have r1:u.2.2.2.2.2.2.2.1.1.length<=30:=g6.1.2.1
 have r2:u.2.2.2.2.2.2.2.1.2.2.1.length<=6:=Kfq g6
 have v1:u.2.2.2.2.2.2.1.length<=10:=g5.1
 have v2:u.2.2.2.2.2.2.2.2.2.2.1.2.1.length<=10:=l4.1
 have b1:u.2.2.2.2.2.2.2.2.1.length<=16:=g7.1.2
 have m1:u.2.2.2.2.2.2.2.2.2.2.2.2.2.2.2.2.1.2.2.1.length<=1000:=g13
 have l2:u.2.2.2.2.2.2.2.2.2.2.1.1.length<=6:=l2
 unfold J67 J69 J65 J5k J2p J27 J2c J57 J59 J4x J47 J4m J51 J39 J5s J5t J5o J5i J3 Ji J2d J14 Jq J2q J3t J2y J0w_1
 simp only[wp,Jrd _ (Nat.le_trans g12.1 (by decide)) g12.2,K0f]
 have z:(((0:Int),(0:Int),(List.replicate 32 (0:UInt8)),(List.replicate 32 (0:UInt8)),(List.replicate 32 (0:UInt8)),(List.replicate 32 (0:UInt8)),()),([]:List J9q),([]:List Val),([]:List Val),())=Jtc:=rfl
 refine⟨by omega,by omega,by omega,by omega,by omega,by omega,by omega,by omega,by omega,by omega,by omega,by omega,(Jeg (Q:=λo=>1<=o.2.2.2.2.2.2.2.2.2.2.2.2.2.2.2.2.2.2.2.length/\o.2.2.1.length<=6/\o.2.2.2.1.length<=10/\o.2.1.2.1=false) (λi:Int=>0<=i/\i<=u.2.2.2.2.2.2.2.2.2.2.1.1.length) (λi=>u.2.2.2.2.2.2.2.2.2.2.1.1.length - i) (by simp) λi hi=> ?_).imp λo ho=> ?_⟩
 ·have e1:=oX (i+1)
  unfold J0w_1_step J1j J24 J3
  simp only[wp,e1,z]
  refine⟨λc=>⟨by omega, ?_⟩,λ_=>⟨l1,l2,v2,l5⟩⟩
  obtain⟨j,hj,e⟩:=l3 _ (Jb0 hi.1 c ((0:Int),(0:Int),(List.replicate 32 (0:UInt8)),(List.replicate 32 (0:UInt8)),(List.replicate 32 (0:UInt8)),(List.replicate 32 (0:UInt8)),()))
  obtain⟨hB,_,hj1,_⟩:=g7.2 j hj
  have hj:j<u.2.2.2.2.2.2.2.2.1.length:=hj
  rw[e,hj1,oX ((j:Int)+1 - 1),show((j:Int)+1 - 1).toNat=j from by omega]
  have q1:=hB.2.1.1;have q2:=hB.2.2.1.1;have q3:=hB.2.2.2.1
  refine⟨λ_=>by omega,λ_=>⟨λ_=>by omega,λ_=>⟨by omega,Nat.le_trans q1 (by decide),Nat.le_trans q2 (by decide),Nat.le_trans q3 (by decide),by simp,λ_=>⟨λq=> ?_,λ_=>by omega⟩⟩⟩⟩
  exact absurd (Jye _ rfl _) (by rw[q];decide)
 ·obtain⟨o1,o2,o3,o4⟩:=ho
  exact⟨λ_=>⟨by omega,by omega,by simp[o4]⟩,λ_=>by omega⟩
end Go.Ax.V
