/-
  Rounded against the user: between two backings the rate never falls, all shares are the users', nobody redeems more than is pending.
-/
import Derived.Test.YthhioanidhkdeaaGreatCTopRoundLA
namespace Go.Ax.V
open Go.Ax
set_option linter.unusedVariables false
set_option linter.unusedSimpArgs false
set_option autoImplicit true
set_option relaxedAutoImplicit true
abbrev RW:=Int×List K7p×Unit×Chn×K80
def RwT(m k:Nat)(w:RW):Prop:=w.2.1.length<=200*k/\(ChnT m w.2.2.2.1/\1<=w.2.2.2.1.2.2.2.2.2.1.length)/\Jw1 (k+1) w.2.2.2.2
theorem wdo_ok(hm:m<=4)(hk:k<=100){ac:List K7p}{H:Chn}{c:K80}(h:RwT m k (now,ac,(),H,c)){o:Opt}(ho:OpT o){x:K0l}{ok:Bool}(hx:ok=true->RsT x):Ok (J47 o x ok now ac () H c.1 c.2.1 c.2.2.1 c.2.2.2.1 c.2.2.2.2.1 c.2.2.2.2.2.1 c.2.2.2.2.2.2.1 c.2.2.2.2.2.2.2.1 c.2.2.2.2.2.2.2.2.1 c.2.2.2.2.2.2.2.2.2.1 c.2.2.2.2.2.2.2.2.2.2.1 c.2.2.2.2.2.2.2.2.2.2.2.1 c.2.2.2.2.2.2.2.2.2.2.2.2.1 c.2.2.2.2.2.2.2.2.2.2.2.2.2) (λr=>RwT m (k+1) r.2):=by
 obtain⟨ha,⟨hC,h1⟩,hc⟩:=h;dsimp only at ha hC h1 hc;have hg:RgT (k+2) c.2.2.2.2.2.2.1:=⟨by have:=hc.2.2.2.1.1;omega,hc.2.2.2.1.2⟩;have hc':Jw1 (k+2) c:=⟨hc.1,hc.2.1,hc.2.2.1,hg,hc.2.2.2.2⟩;have ha':ac.length<=200*(k+1):=by omega
 have same:∀t,RwT m (k+1) (t,ac,(),H,c):=λt=>⟨ha',⟨hC,h1⟩,hc'⟩;have hl:=hC.2.2.2.2.2.1;have hl2:=hC.2.2.2.2.2.2.1;have hcl:=hc.1.1;unfold J47;simp only[wp];refine⟨λq=>(Kdf hC.2.2.2.1 hC.2.2.2.2.1 _ (by have:=(ho.1 q).2.1;omega)).imp λu hu=> ?_,λ_=>⟨λ_=>(K3h hm hC h1 _).imp λu hu=>⟨λ_=>⟨ha',⟨hu.1,Nat.le_trans h1 hu.2⟩,hc'⟩,λ_=>⟨ha',⟨hu.1,Nat.le_trans h1 hu.2⟩,hc'⟩⟩,λ_=>⟨λ_=>⟨λ_=>same _,λ_=>⟨λ_=>same _,λ_=>same _⟩⟩,λ_=>⟨λ_=>⟨λ_=>same _,λq1=>⟨λ_=>same _,λq2=> ?_⟩⟩,λ_=>⟨λ_=> ?_,λ_=>⟨λ_=> ?_,λ_=>⟨λ_=> ?_,λ_=>⟨λ_=> ?_,λ_=>⟨λ_=>⟨λq=> ?_,λ_=>same _⟩,λ_=>⟨λ_=> ?_,λ_=>⟨λ_=> ?_,λ_=>⟨λ_=> ?_,λ_=>⟨λ_=> ?_,λ_=>same _⟩⟩⟩⟩⟩⟩⟩⟩⟩⟩⟩⟩⟩;·obtain⟨d1,d2,d3,d4,d5,d6⟩:=hu;exact⟨ha',⟨⟨d1.trans hC.1,d2.trans hC.2.1,d3.trans hC.2.2.1,d4,d5,by rw[d6];exact hC.2.2.2.2.2⟩,by show 1<=u.2.2.2.2.2.2.1.length;rw[d6];exact h1⟩,hc'⟩
 ·rw[oW];exact⟨by omega,(Kco (K36 hC.2.2.2.2.2.2.2.1 (by omega) (by omega) _) hc.2.2.1 now).imp λu hu=>⟨ha',⟨hC,h1⟩,hc'.1,hc'.2.1,hu,hg,hc'.2.2.2.2⟩⟩
 ·refine(K3c (calls:=c.1) ⟨by omega,hc.1.2⟩ hc.2.1 hc.2.2.2.2 (by omega) hg _ _ _ _ _ _).imp λu hu=> ?_;obtain⟨b1,b2,b3,b4,b5,b6⟩:=hu;exact⟨ha',⟨hC,h1⟩,⟨by simp,by simp⟩,b1,by rw[b2];exact hc.2.2.1,b6,b5⟩
 ·exact(Kf0 (by omega) hc.2.2.2.1 ho.2).imp λu hu=>⟨ha',⟨hC,h1⟩,hc'.1,hc'.2.1,hc'.2.2.1,hu,hc'.2.2.2.2⟩
 ·exact(K8e (by omega) hc' _).imp λu hu=>⟨ha',⟨hC,h1⟩,hc'.1,hc'.2.1,hc'.2.2.1,hu,hc'.2.2.2.2⟩
 ·exact(K7h (by omega) hc' (by omega) (Nat.le_refl _) hC.2.2.2.2.2.2.2.2 (by omega) _ _ _).imp λu hu=>⟨by have:=hu.1;dsimp only;omega,⟨hC,h1⟩,hu.2⟩
 ·exact(Jp2 (hx q) (by omega) hc' (by omega) (Nat.le_refl _) _ _).imp λu hu=>⟨by have:=hu.1;dsimp only;omega,⟨hC,h1⟩,hu.2⟩
 ·exact(Kak hc.2.2.2.2 _ _ _).imp λu hu=>⟨ha',⟨hC,h1⟩,hc'.1,hc'.2.1,hc'.2.2.1,hg,hu⟩
 ·exact(K25 hc.2.2.2.2 _ _ _).imp λu hu=>⟨ha',⟨hC,h1⟩,hc'.1,hc'.2.1,hc'.2.2.1,hg,hu⟩
 ·exact(K8i _ _ c).imp λu hu=>same _
 exact(K7l (by omega) hc' (by omega) (Nat.le_refl _) hC h1 now).imp λu hu=>⟨by have:=hu.1;dsimp only;omega,by rw[hu.2.1];exact⟨hC,h1⟩,hu.2.2⟩
theorem J95(a:Int)(h:lo<=hi:=by omega)(h1: -1099511627776<=lo:=by omega)(h2:hi<=1099511627776:=by omega):Ok (J5 a lo hi) (λr=>lo<=r/\r<=hi):=by obtain⟨r,e,h⟩:=Jke a lo hi h h1 h2;exact Ok.eq e h
theorem Jia(n:Int):Ok (J33 n) (λr=>1<=r.length/\r.length<=3):=by
 obtain⟨i,hi,e⟩:=Keb n;have:∀i,i<12->1<=(Jnl.getD i []).length/\(Jnl.getD i []).length<=3:=by decide
 exact Ok.eq e (this i hi)
theorem Jy8(n:Int):Ok (J3s n) (λr=>r.length<=8):=by obtain⟨x,e,h⟩:=K9l n;exact Ok.eq e h
theorem ktx_ok k:Ok (J67 k) TxOk:=by have g4:∀i:Int,0<=i->i<=3->1<=(([[118,97],[118,98],[118,99],[118,100]]:List (List UInt8)).getD i.toNat []).length/\(([[118,97],[118,98],[118,99],[118,100]]:List (List UInt8)).getD i.toNat []).length<=3:=λi h0 h1=>(by decide:∀x∈([[118,97],[118,98],[118,99],[118,100]]:List (List UInt8)),1<=x.length/\x.length<=3) _ (Jb0 h0 (by simp;omega) _);have g3:∀i:Int,0<=i->i<=2->1<=(([[97],[98],[99]]:List (List UInt8)).getD i.toNat []).length/\(([[97],[98],[99]]:List (List UInt8)).getD i.toNat []).length<=3:=λi h0 h1=>(by decide:∀x∈([[97],[98],[99]]:List (List UInt8)),1<=x.length/\x.length<=3) _ (Jb0 h0 (by simp;omega) _);simp only[J67,J55,wp];refine(J95 _).imp λa ha=>(J95 _).imp λb _=>(J95 _).imp λd _=>⟨λ_=>(Jia _).imp λx hx=>(Jy8 _).imp λy hy=>⟨ha,hx,hy⟩,λ_=>⟨λ_=>(Jia _).imp λx hx=>⟨ha,hx,by simp⟩,λ_=>⟨λ_=>(J95 _).imp λi hi=>⟨?_,(J95 _).imp λj _=>⟨ha,g4 i (by omega) (by omega),by simp⟩⟩,λ_=>(J95 _).imp λi hi=>⟨?_,ha,g3 i (by omega) (by omega),by simp⟩⟩⟩⟩;all_goals (simp;omega)
theorem Jx7 k:Ok (J17 k) QT:=by simp only[J17,wp];have z:∀a b:Int,QT (2,[115,47],[115,48],a,b,()):=λa b=>⟨by simp,by simp⟩;have q:∀{a b:List UInt8} (i j k:Int),a.length<=3->b.length<=3->QT (i,a,b,j,k,()):=λi j k h1 h2=>⟨by dsimp only;omega,by dsimp only;omega⟩;exact(Jia _).imp λx hx=>(J95 _).imp λb _=>(J95 _).imp λd _=>⟨λ_=>(Jia _).imp λy hy=>⟨λ_=>⟨λ_=>z _ _,λ_=>q _ _ _ hy.2 hx.2⟩,λ_=>⟨λ_=>z _ _,λ_=>q _ _ _ hx.2 hy.2⟩⟩,λ_=>⟨λ_=>z _ _,λ_=>q _ _ _ hx.2 (by simp)⟩⟩
def TnT(r:K0l):Prop:=Jfh r.2.2.1/\PfT r.2.2.2.1/\Jfh r.2.2.2.1.2.2.1
theorem Ko(h:Jfh l){i:Int}(h0:0<=i)(h1:i<l.length){v:List UInt8}(hv:v.length<=8)(d:Pr):Jfh (l.set i.toNat ((l.getD i.toNat d).1,v,())):=⟨by rw[List.length_set];exact h.1,λx hx=>by
 rcases List.mem_or_eq_of_mem_set hx with hx|rfl;·exact h.2 x hx
 exact⟨(h.2 _ (Jb0 h0 h1 d)).1,by dsimp only;omega⟩⟩
theorem K5r(h:PfT p) a b x y u v:PfT (x,y,J9v p.2.2.1 a b,J9v p.2.2.2.1 u v,()):=⟨Nat.le_trans (K3q ..) h.1,λx hx=>h.2 x (Jwh hx)⟩
theorem K9k{r o:K0l}(hr:AnT r)(ho:AnT o)(how ix by':Int):Ok (J3l r o how ix by') TnT:=by obtain⟨r1,r2,r3,r4⟩:=hr;obtain⟨o1,o2,o3,o4⟩:=ho;have b1:=r1.1;have b2:=r3.1;have r5:=r2.2;have e1:=oX ((r.2.2.1.length:Int) - 1);have e2:=oX ((r.2.2.2.1.2.2.1.length:Int) - 1);have z:∀(a b x y:Int),TnT (a,b,r.2.2.1,(x,y,r.2.2.2.1.2.2.1,r.2.2.2.1.2.2.2.1,()),()):=λa b x y=>⟨r1,⟨by dsimp only;omega,r5⟩,r3⟩;simp only[J3l,wp,List.nil_append,List.length_nil];refine⟨by omega,by omega,by omega,(J95 _).imp λa _=>⟨λ_=>⟨o1,⟨by dsimp only;omega,r5⟩,r3⟩,λ_=>⟨λ_=>⟨r1,o2,o3⟩,λ_=>⟨λ_=>⟨λ_=>(J95 _).imp λi hi=>(Jy8 _).imp λv hv=>⟨by omega,Ko r1 (by omega) (by omega) hv _,⟨by dsimp only;omega,r5⟩,r3⟩,λ_=>z _ _ _ _⟩,λ_=>⟨λ_=>⟨λ_=>⟨by omega,Jmf r1 _ _,⟨by dsimp only;omega,r5⟩,r3⟩,λ_=>z _ _ _ _⟩,λ_=>⟨λ_=>⟨λ_=>(J95 _).imp λi hi=>(Jy8 _).imp λv hv=>⟨by omega,r1,⟨by simp;omega,r5⟩,Ko r3 (by omega) (by omega) hv _⟩,λ_=>z _ _ _ _⟩,λ_=>⟨λ_=>⟨λ_=>⟨by omega,by omega,r1,K5r r2 _ _ _ _ _ _,Jmf r3 _ _⟩,λ_=>z _ _ _ _⟩,λ_=>⟨λ_=>⟨λ_=>⟨by omega,by omega,r1,K5r r2 _ _ _ _ _ _,Jmf r3 _ _⟩,λ_=>z _ _ _ _⟩,λ_=>⟨λ_=>(J95 _).imp λi hi=>z _ _ _ _,λ_=>⟨λ_=>(J95 _).imp λi hi=>z _ _ _ _,λ_=>⟨λ_=>(J95 _).imp λi hi=>z _ _ _ _,λ_=>z _ _ _ _⟩⟩⟩⟩⟩⟩⟩⟩⟩⟩⟩
theorem Jod(n:Int):Ok (Jl n) (λr=>r.length<=7):=Ok.eq (Jer n) (J9k n)
theorem K4w(h:PrT p):Ok (J2c p) (λr=>r.length<=200100):=Ok.eq (Jse p ⟨by have:=h.1;omega,by have:=h.2;omega⟩) (Jjj ⟨by have:=h.1;omega,by have:=h.2;omega⟩)
theorem K4p(h:TnT r):Ok (Jh r) (λb=>b.length<=100000000):=by
 obtain⟨r1,r2,r3⟩:=h;have l1:=r1.1;have l3:=r3.1;simp only[Jh,Jh_1,Jh_3,wp,List.length_append];refine⟨λ_=>by simp,λ_=>⟨λ_=>by simp,λ_=>⟨λ_=>by simp,λ_=>⟨λ_=>by simp,λ_=>⟨λ_=>by simp,λq=>(Jod _).imp λa ha=>(Jod _).imp λb hb=>⟨by omega,(Jod _).imp λc hc=>⟨by omega, ?_⟩⟩⟩⟩⟩⟩⟩;refine(Jee (Q:=λo:K0l×List UInt8=>o.1=r/\o.2.length<=10000000) (λs:Int×List UInt8=>0<=s.1/\s.1<=r.2.2.1.length/\s.2.length<=30+200100*s.1) (λs=>r.2.2.1.length - s.1) ⟨by simp,by simp,by simp only[List.length_append];omega⟩ λs hs=> ?_).imp λo ho=> ?_;·have e1:=oX (s.1+1);simp only[Jh_1_step,wp,e1,List.length_append];exact⟨λc=>⟨by omega,(K4w (r1.2 _ (Jb0 (by omega) c _))).imp λu hu=>by omega⟩,λ_=>⟨by trivial,by omega⟩⟩
 obtain⟨o1,o2⟩:=ho;simp only[o1];refine(Jod _).imp λa ha=>⟨by omega,(Jod _).imp λb hb=>⟨by omega,(Jod _).imp λc hc=>⟨by omega, ?_⟩⟩⟩;refine Jee (λs:List Pr×Int×Int×K0l×List UInt8=>s.1=r.2.2.2.1.2.2.1/\s.2.1=r.2.2.2.1.2.2.1.length/\0<=s.2.2.1/\s.2.2.1<=r.2.2.2.1.2.2.1.length/\s.2.2.2.1=r/\s.2.2.2.2.length<=10000100+300000*s.2.2.1) (λs=>r.2.2.2.1.2.2.1.length - s.2.2.1) ⟨by trivial,by trivial,by simp,by simp,by trivial,by simp only[List.length_append];omega⟩ λs hs=> ?_;obtain⟨i1,i2,i3,i4,i5,i6⟩:=hs;have e1:=oX (s.2.2.1+1);simp only[Jh_3_step,Jh_2,wp,i1,i2,i5,List.length_append];refine⟨λc=>⟨by omega,(K4w (r3.2 _ (Jb0 (by omega) c _))).imp λu hu=>⟨by omega,by omega,(Jod _).imp λv hv=>⟨by omega, ?_⟩⟩⟩,λ_=>by omega⟩;have hp:=r2.2 _ (Jb0 (i:=s.2.2.1) (by omega) (by omega) []);generalize r.2.2.2.1.2.2.2.1.getD _ _=p at hp;refine(Jee (Q:=λo:List Pr×Int×Int×K0l×List UInt8=>o.1=r.2.2.2.1.2.2.1/\o.2.1=r.2.2.2.1.2.2.1.length/\o.2.2.1=s.2.2.1/\o.2.2.2.1=r/\o.2.2.2.2.length<=10000100+300000*(s.2.2.1+1)) (λt:Int×List UInt8=>0<=t.1/\t.1<=p.length/\t.2.length<=10200300+300000*s.2.2.1+32*t.1) (λt=>p.length - t.1) ⟨by simp,by simp,by simp only[List.length_append];omega⟩ λt ht=> ?_).imp λo ho=> ?_;·obtain⟨t1,t2,t3⟩:=ht;have e2:=oX (t.1+1);simp only[Jh_2_step,wp,e2,List.length_append];refine⟨λc=> ?_,λ_=>⟨by trivial,by trivial,by trivial,by trivial,by omega⟩⟩;have:=hp.2 _ (Jb0 t1 c (List.replicate 32 (0:UInt8)));omega
 obtain⟨o1,o2,o3,o4,o5⟩:=ho;rw[o3,e1];exact⟨⟨o1,o2,by omega,by omega,o4,o5⟩,by omega,by omega⟩
theorem band1(a:Int):0<=Jp7 a 1/\Jp7 a 1<2:=by
 unfold Jp7;have h:(BitVec.ofInt 64 a&&& BitVec.ofInt 64 1).toNat<=1:=by rw[BitVec.toNat_and];exact Nat.and_le_right
 generalize (BitVec.ofInt 64 a&&& BitVec.ofInt 64 1).toNat=m at*
 show 0<=w64 (m:Int)/\w64 (m:Int)<2;rw[oW];omega
def OqT(o:Opt):Prop:=OpT o/\(1<=o.1/\o.1<=13)/\o.2.2.2.2.2.2.1.length<=100000000
theorem kop_ok(hC:ChnT m H)(h1:1<=H.2.2.2.2.2.1.length)(hb:b<=1000)(hc:Jw1 b c) p (now:Int) ac:Ok (J53 p now ac () H c.1 c.2.1 c.2.2.1 c.2.2.2.1 c.2.2.2.2.1 c.2.2.2.2.2.1 c.2.2.2.2.2.2.1 c.2.2.2.2.2.2.2.1 c.2.2.2.2.2.2.2.2.1 c.2.2.2.2.2.2.2.2.2.1 c.2.2.2.2.2.2.2.2.2.2.1 c.2.2.2.2.2.2.2.2.2.2.2.1 c.2.2.2.2.2.2.2.2.2.2.2.2.1 c.2.2.2.2.2.2.2.2.2.2.2.2.2) OqT:=by
 have z:∀{a:Int} (b c:Int) (d:List UInt8),¬a=1->1<=a/\a<=13->OqT (a,b,c,d,(0,[],[],0,0,()),(0,[],[],0,0,()),[],()):=λb c d h1 h2=>⟨⟨λh=>absurd h h1,by simp,by simp⟩,h2,by simp⟩;have hl:=hC.2.2.2.2.2.1;have hl2:=hC.2.2.2.2.2.2.1;have hb2:=hc.2.2.2.1.1;have hB:=band1 p.2.2.1;have e1:=oX ((c.2.2.2.2.2.2.1.2.2.1.length:Int)+1);have e2:=oX ((H.2.2.2.2.2.1.length:Int) - 1)
 have fin:∀{k:Int} (i:Int) (q:Qry),¬k=1->1<=k/\k<=13->Ok (Js i q (H.2.2.2.2.2.1.length:Int) (H.2.2.2.2.2.2.1.getD ((H.2.2.2.2.2.1.length:Int) - 1).toNat [])) λa=>Ok (J17 p.2.2.2.2.2.2.2.1) λu=>Ok (Js i u (H.2.2.2.2.2.1.length:Int) (H.2.2.2.2.2.2.1.getD ((H.2.2.2.2.2.1.length:Int) - 1).toNat [])) λv=>Ok (J3l a v p.2.2.2.1 p.2.2.2.2.1 p.2.2.1) λx=>Ok (Jh x) λy=>OqT (k,0,0,[],(0,[],[],0,0,()),(0,[],[],0,0,()),y,()):=λi q k1 k2=>
  (Jxs (Jsn hC.2.2.2.2.2.2.2.2 _) _ _ _).imp λa ha=>(Jx7 _).imp λu _=>(Jxs (Jsn hC.2.2.2.2.2.2.2.2 _) _ _ _).imp λv hv=>(K9k ha hv _ _ _).imp λx hx=>(K4p hx).imp λy hy=>⟨⟨λh=>absurd h k1,by simp,by simp⟩,k2,hy⟩
 unfold J53;have e0:w64 (((0+1+1+1+1+1+1+1+1+1+1+1+1+1+1+1+1+1+1+1+1+1+1+1+1:Nat):Int) - 1)=23:=by decide
 simp only[wp,List.length_cons,List.length_nil,e1,e2];refine(J95 _).imp λk hk=>⟨?_,(J95 _).imp λi hi=> ?_⟩;·omega
 have e3:=oX (i - 1);have hg:∀x∈([1,1,1,2,2,3,4,4,5,5,5,6,7,8,8,8,9,9,10,10,11,12,13,13]:List Int),1<=x/\x<=13:=by decide
 have hg:=hg _ (Jb0 hk.1 (by simp;omega) 0);exact⟨λ_=>(ktx_ok _).imp λt ht=>⟨⟨λ_=>ht,by simp,by simp⟩,hg,by simp⟩,λg1=>⟨λ_=>⟨by omega,(J95 _).imp λ_ _=>z _ _ _ g1 hg⟩,λ_=>⟨λ_=>(J95 _).imp λ_ _=>z _ _ _ g1 hg,λ_=>⟨λ_=>(J95 _).imp λ_ _=>z _ _ _ g1 hg,λ_=>⟨λ_=>(Jx7 _).imp λq hq=>⟨⟨λh=>absurd h g1,hq⟩,hg,by simp⟩,λ_=>⟨λ_=>z _ _ _ g1 hg,λ_=>⟨λ_=>(J95 _).imp λ_ _=>z _ _ _ g1 hg,λ_=>⟨λ_=>(Jx7 _).imp λq hq=>(Jmj hb hc.2.2.2.1 i).imp λu hu=>⟨λq=>⟨by have:=hu q;omega,by omega,fin _ _ g1 hg⟩,λ_=>⟨by omega,fin _ _ g1 hg⟩⟩,λ_=>⟨λ_=>⟨by omega,(J95 _).imp λ_ _=>z _ _ _ g1 hg⟩,λ_=>⟨λ_=>⟨by omega,(J95 _).imp λ_ _=>z _ _ _ g1 hg⟩,λ_=>⟨λ_=>(J95 _).imp λ_ _=>z _ _ _ g1 hg,λ_=>z _ _ _ g1 hg⟩⟩⟩⟩⟩⟩⟩⟩⟩⟩⟩
def l1:List Pr:=[([97],[49],())]
def q1:Qry:=(1,[97],[],0,1,())
theorem Joe l k:Jch l k k=[]:=by unfold Jch;rw[List.filter_eq_nil_iff];intro p _;unfold inR;cases J91 p.1 k<;>simp
def K2m(l:List Pr):Prop:=Jaz l/\l.length<=12/\Jyh l/\Jc6 l=true
theorem row_G(h:K81 l):K2m l:=⟨h.1,h.2.1,row_kv h,K6f h⟩
theorem Jms(id:Int) q (h:Int) l (hrow:K2m l):Jlv (Jm0 id q h l).2.2.2.1/\(Jm0 id q h l).2.2.1.length<=12/\Jc6 (Jm0 id q h l).2.2.1=true/\(Jm0 id q h l).1=id/\(Jm0 id q h l).2.1=h:=by
 have hk:=hrow.2.2.1;have hl:=hrow.2.1;have hrt:=hrow.2.2.2;unfold Jm0;split;·rename_i c;have:=(Jeo c.2).1;have hs:[l.getD (J8j l q.2.1) zPr].Sublist l:=List.singleton_sublist.2 (Ja7 this);exact⟨Jmh l hk _ _ (by omega),by simp,Jol hrt hs,rfl,rfl⟩
 exact⟨Jmh l hk _ _ (by omega),Nat.le_trans (List.length_filter_le _ _) hl,Jol hrt List.filter_sublist,rfl,rfl⟩
theorem Kd2(hrow:K2m l)(hq:q.1=1\/q.1=2) id h (h1:1<=h/\h<=16):Kd1 (Jm0 id q h l)=true/\admS q (Jcl l) (Jm0 id q h l)=0:=by
 have hk:=hrow.2.2.1;have hrt:=hrow.2.2.2;have hr:=hrow.1;obtain⟨o1,o2,o3,o4,o5⟩:=Jms id q h l hrow;have hR:Kd1 (Jm0 id q h l)=true:=by unfold Kd1;grind
 refine⟨hR, ?_⟩;unfold admS;rw[hR,if_pos rfl];rcases hq with c|c
 ·rw[oJ];cases ha:Ji1 l q.2.1 with
  |true=>obtain⟨q1,q2⟩:=Jeo ha;have e:Jm0 id q h l=(id,h,[l.getD (J8j l q.2.1) zPr],Jb6 l (J8j l q.2.1) (J8j l q.2.1+1),()):=(by unfold Jm0;rw[if_pos ⟨c,ha⟩]);rw[e];dsimp only;have he:Jps (Jcl l) (l.getD (J8j l q.2.1) zPr) (Jb6 l (J8j l q.2.1) (J8j l q.2.1+1))=true:=(by unfold Jps;rw[Jqh l hrt _ _ (by omega),decide_eq_true (show J8j l q.2.1<J8j l q.2.1+1 by omega),Bool.or_true,Bool.true_and,decide_eq_true_eq,K6u l q1]);grind
  |false=>have e:Jm0 id q h l=(id,h,Jch l q.2.1 q.2.1,Jb6 l (J8j l q.2.1 - 1) (min (J8j l (maxS q.2.1 q.2.1)+1) l.length),()):=(by unfold Jm0 endQ;rw[if_neg (λh=>by rw[ha]at h;cases h.2),if_pos c]);have hA:absS (Jcl l) q.2.1 (Jb6 l (J8j l q.2.1 - 1) (min (J8j l (maxS q.2.1 q.2.1)+1) l.length))=true:=(by unfold absS;rw[Jlk l hrt,Bool.true_and,Bool.not_eq_true',<-Bool.not_eq_true];intro hat;obtain⟨z1,z2⟩:=Jeo hat;have hm:=Ja7 (z:=zPr) z1;generalize (Jb6 l (J8j l q.2.1 - 1) (min (J8j l (maxS q.2.1 q.2.1)+1) l.length)).2.2.1.getD (J8j (Jb6 l (J8j l q.2.1 - 1) (min (J8j l (maxS q.2.1 q.2.1)+1) l.length)).2.2.1 q.2.1) zPr=u at hm z2;have hm2:u∈l:=(by unfold Jb6 at hm;grind);rw[(Jzh hr q.2.1).2 ⟨u,hm2,z2⟩]at ha;cases ha);rw[e];dsimp only;rw[Joe,if_pos (by rfl),hA];rfl
 rw[if_pos c];have e:Jm0 id q h l=(id,h,Jch l q.2.1 q.2.2.1,Jb6 l (J8j l q.2.1 - 1) (min (J8j l (maxS q.2.1 q.2.2.1)+1) l.length),()):=by unfold Jm0 endQ;rw[oJ,oJ]
 rw[e];dsimp only;rw[Jlk l hrt,decide_eq_true rfl];rfl
theorem K0r(hrow:K2m l)(hq:q.1=1\/q.1=2) id h (h1:1<=h/\h<=16):J6f (Jm0 id q h l)=some true/\J6w q (Jcl l) (Jm0 id q h l)=some 0:=by obtain⟨a,b,c,d,e⟩:=Jms id q h l hrow;obtain⟨r,s⟩:=Kd2 hrow hq id h h1;exact⟨by rw[Jie _ (by omega),r],by rw[Jmq _ _ _ a (by omega),s]⟩
theorem Kd3(hrow:K2m l)(hq:q.1=1\/q.1=2) id h:J76 id q h l=some (Jm0 id q h l):=by
 have hk:=hrow.2.2.1;have hr:=hrow.1;have hl:=hrow.2.1;unfold J76;rcases hq with c|c;·rw[oF,Jz5 l hk hr,J8a];cases ha:Ji1 l q.2.1 with|true=>rw[if_pos rfl];rw[Jbt,Jft l hr (by omega),J8a,ha,if_pos rfl];unfold Jm0;dsimp only;have:=(Jeo ha).2;grind|false=>rw[if_neg (by simp)];dsimp only;rw[J8t,Jtk l hk hr,J8a,ha,if_neg (by simp)];unfold Jm0 endQ;rw[if_neg (λh=>by rw[ha]at h;cases h.2),if_pos c,Joe,Jus]
 rw[J8y c,Jku l hr (by omega),J8a,Jsf l hk hr,J8a];unfold Jm0 endQ;grind
abbrev Jcn:=Int×Int×List Pr×Unit
def Kcs:Jcn:=(0,0,[],())
def Jcx(c:Jcn):Prop:=c.2.2.1.length<=1000
theorem Jmy(x0:Int)(x1:Int) x2:J1g_1_step x0 x1 x2=(J8b (decide (x1<x0)) (need (0<=x1/\x1<(List.length x2:Int)) (J89 (Jj ((List.getD x2 (Int.toNat x1) Kcs).2.2.1)) (λu6=>some (.inl ((w64 (x1+(1:Int))),(List.set x2 (Int.toNat x1) ((List.getD x2 (Int.toNat x1) Kcs).1,(List.getD x2 (Int.toNat x1) Kcs).2.1,u6,()))))))) (some (.inr x2)):Option ((Int×List Jcn)⊕List Jcn)):=rfl
theorem Kaw(l:List α)(i:Nat) z:l.set i (l.getD i z)=l:=by
 by_cases h:i<l.length;·simp_all
 rw[List.set_eq_of_length_le (by omega)]
theorem Jr7(l:List Jcn)(hl:l.length<=1000)(h:∀c∈l,Jcx c):J1g l=some l:=by
 have m:J1g_1 (l.length:Int) 0 l=some l:=by
  refine J8p (step:=λ(s:Int×List Jcn)=>J1g_1_step (l.length:Int) s.1 s.2) (λi (_:Unit)=>((i:Int),l)) (λ_ _=>()) (λ_=>l) l.length (λ_ _=>True) (λi w hi _=>⟨?_,trivial⟩) (λw _=> ?_) l.length 0 () (by omega) trivial;·show J1g_1_step (l.length:Int) (i:Int) l=_;have hc:=h _ (Ja7 (z:=Kcs) hi);unfold Jcx at hc;rw[Jmy,oT,oN,Int.toNat_natCast];unfold Jj;rw[oN,J8a,oW];rw[Kaw];rfl
  rw[Jmy,oF]
 unfold J1g J5p;rw[oN,J8a,m];rfl
theorem pushG c (l:List Jcn) (hl:l.length<8) (hc:Jcx c) (h:∀c∈l,Jcx c):J5b [c] (l,())=some (1,(),l++[c]):=by unfold J5b J2o;rw[J8a,Jr7 l (by omega) h,J8a];dsimp only;rw[oW,show(([c].length:Nat):Int)=1 from rfl,show min (1:Int) (8 - (l.length:Int))=1 from by omega,oN];rw[show J9v [c] (0:Int) 1=[c]from rfl,Jr7 [c] (by simp) (by simpa using hc),J8a,J8d (by simp;omega)]
theorem roomG(l:List Jcn)(hl:l.length<=8):J2o (l,())=some (8 - (l.length:Int)):=by unfold J2o;dsimp only;rw[oW]
theorem popG c (l:List Jcn) (hl:l.length<=1000):J2d (c::l,())=some (c,true,(l,())):=by unfold J2d;rw[J93 (by rw[List.length_cons];omega),J8d (by rw[List.length_cons];omega),J8d (by rw[List.length_cons];omega)];unfold J9v;simp_all
theorem popG0:J2d (([]:List Jcn),())=some (Kcs,false,([],())):=rfl
section
variable (n : Nat) (p : Nat → Int) (f : Nat → Int) (R : List (List Pr))
noncomputable def hdK(j:Nat):List Hdr:=Jip ((List.range j).map (hL n p f R))
noncomputable def Ji5(T:Int)(j:Nat):Cli:=(hdK n p f R j,J8n p n,T,false,())
theorem Jks(j:Nat):(hdK n p f R j).length=min j 6:=by unfold hdK;rw[Jji];simp
theorem K99 l (h:j<=R.length):hdK n p f (R++[l]) j=hdK n p f R j:=by unfold hdK;congr 1;refine List.map_congr_left λi hi=>Ke3 n p f R l ?_;grind
theorem K3e l (T:Int) (h:j<=R.length):Ji5 n p f (R++[l]) T j=Ji5 n p f R T j:=by unfold Ji5;rw[K99 n p f R l h]
theorem Jze(j:Nat):hdK n p f R (j+1)=K3m (hdK n p f R j++[hL n p f R j]):=by unfold hdK;rw[List.range_succ,List.map_append,List.map_singleton,Jq4];unfold K3m;grind
theorem Jrw(h:1<=j) x:lastH (hdK n p f R j,x)=hL n p f R (j - 1):=by
 obtain⟨i,rfl⟩:∃i,j=i+1:=⟨j - 1,by omega⟩;rw[Jze];by_cases c:1<=(hdK n p f R i).length;·rw[K4u _ _ _ c];rfl
 have:hdK n p f R i=[]:=List.eq_nil_of_length_eq_zero (by omega);rw[this];rfl
theorem Kbz(h:1<=j)(T:Int):Knows (J8n p n) T (hL n p f R (j - 1)) (Ji5 n p f R T j):=⟨by show 1<=(hdK n p f R j).length;rw[Jks];omega,by show(hdK n p f R j).length<=1000;rw[Jks];omega,Jrw n p f R h _,rfl,rfl,rfl⟩
end
section
variable {n : Nat} {p : Nat → Int} {f : Nat → Int} {R : List (List Pr)}
theorem Kg7(hp:Jkj p)(h1:1<=n)(hn:n<=4)(hR:R.length<=16)(hf:Jmn R.length f)(hj:1<=j/\j<R.length) T now (hnow:0<=now/\now<=1099511627776) (q1:¬T<now - f (j - 1)) (q2:f j<=now):J30 (gL n p f R j) now (Ji5 n p f R T j)=some (0,Ji5 n p f R T (j+1)):=by have hk:=Kbz n p f R hj.1 T;rw[show gL n p f R j=sgB n (rR R) (λ_=>p) f j (λ_=>true)from Kdy _ _ _ _ _];rw[Kcn _ _ _ (sgB_ok hn (λ_=>p) f (by omega) (K5y R j) _) (Kbn (r:=rR R) (m:=R.length) hn (λ_=>hp) hR hf (by omega) hk) (by omega)];rw[Kg8 (m:=R.length) h1 hn (λ_=>hp) hR hf (by omega) hj.2 hk now (λ_=>true) q1 (by omega)];have hw:=Keu (p:=pB (λ_=>p) j) (pB_ok (λ_=>hp) _) _ (Ka8 h1);rw[Jrt,oJ,oJ];rw[show(Ji5 n p f R T j).1=hdK n p f R j from rfl];rw[show hG n (rR R) (λk=>J8n p n) f j=hL n p f R j from rfl,<-Jze];rfl
theorem expG(hp:Jkj p)(hn:n<=4)(hR:R.length<=16)(hf:Jmn R.length f)(hj:1<=j/\j<=R.length) T now (hnow:0<=now/\now<=1099511627776):J16 now (Ji5 n p f R T j)=some (decide (T<now - f (j - 1))):=by rw[Jkr _ _ (Kbn (r:=rR R) (m:=R.length) hn (λ_=>hp) hR hf (by omega) (Kbz n p f R hj.1 T)) (by omega)];rw[show lastH (Ji5 n p f R T j)=hL n p f R (j - 1)from Jrw n p f R hj.1 _,show(hL n p f R (j - 1)).2.1=f (j - 1)from hG_t _ _ _ _ _];rfl
theorem latG(hj:1<=j) x v:J3v x (hdK n p f R j) v=some (hL n p f R (j - 1)):=by have hl:=Jks n p f R j;have:=Jrw n p f R hj (v,x);unfold J3v;rw[oW,oN,show(((hdK n p f R j).length:Int) - 1).toNat=(hdK n p f R j).length - 1 from by omega];exact congrArg some this
theorem Jsr(x0:Int) x1 (x2:Int) (x3:Int) x4 x5:Jy_1_step x0 x1 x2 x3 x4 x5=(J8b (decide (x3<x2)) (need (0<=x3/\x3<(List.length x1:Int)) (J8b (decide ((List.getD x1 (Int.toNat x3) Jye).1=x0)) (some (.inr (.inl (true,x4,(List.getD x1 (Int.toNat x3) Jye).2.2.1)))) (some (.inl (w64 (x3+(1:Int))))))) (some (.inr (.inr (x4,x5)))):Option ((Int)⊕((Bool×((List Hdr)×(List Val)×Int×Bool×Unit)×List UInt8)⊕(((List Hdr)×(List Val)×Int×Bool×Unit)×List UInt8)))):=rfl
theorem Kfb(x:Int)(l:List Hdr) y (hl:l.length<=1000) (hk:k<l.length) (hx:(l.getD k Jye).1=x) (hne:∀i,i<k->(l.getD i Jye).1≠x):Jy x (l,y)=some ((l.getD k Jye).2.2.1,true,(l,y)):=by
 have m:Jy_1 x l (l.length:Int) 0 (l,y) (List.replicate 32 0)=some (scan (λi=>if(l.getD i Jye).1=x then some (.inl (true,(l,y),(l.getD i Jye).2.2.1))else none) (.inr ((l,y),List.replicate 32 0)) 0 l.length):=by
  refine Jc3 (step:=λ(s:Int)=>Jy_1_step x l (l.length:Int) s (l,y) (List.replicate 32 0)) (λi=>(i:Int)) _ _ l.length (λi hi q=> ?_) (λi r hi q=> ?_) ?_ l.length 0 (by omega)
  ·rw[Jsr,oT,oN,Int.toNat_natCast,oW];by_cases e:(l.getD i Jye).1=x;·rw[if_pos e]at q;cases q
   rw[J93 e];rfl
  ·rw[Jsr,oT,oN,Int.toNat_natCast];by_cases e:(l.getD i Jye).1=x;·rw[if_pos e]at q;injection q with q;subst q;rw[J8y e]
   rw[if_neg e]at q;cases q
  rw[Jsr,oF]
 unfold Jy;dsimp only;rw[m,J8a,Je0 (bad:=λi=>if(l.getD i Jye).1=x then some (Sum.inl (true,(l,y),(l.getD i Jye).2.2.1))else none) l.length 0 k (Nat.zero_le _) (by omega) (λj _ hj=>if_neg (hne j hj)) (if_pos hx)]
theorem rootG(T:Int){h:Nat}(hh:j - 6<=h/\h<j):Jy ((h:Int)+1) (Ji5 n p f R T j)=some (rR R h,true,Ji5 n p f R T j):=by
 have hl:=Jks n p f R j;have hg:∀i,i<min j 6->(hdK n p f R j).getD i Jye=hL n p f R (j - min j 6+i):=λi hi=>by unfold hdK Jip;grind
 have hone:∀i,(hL n p f R i).1=(i:Int)+1:=λi=>Ke1 _ _ _ _ _;have:=Kfb ((h:Int)+1) (hdK n p f R j) (J8n p n,T,false,()) (by omega) (k:=h - (j - min j 6)) (by omega) (by rw[hg _ (by omega),hone];omega) (λi hi=>by rw[hg _ (by omega),hone];omega);rw[hg _ (by omega)]at this;rw[show j - min j 6+(h - (j - min j 6))=h from by omega]at this;unfold Ji5;rw[this];rw[show(hL n p f R h).2.2.1=rR R h from Ke2 _ _ _ _ _]
end
abbrev Ce:=Jcn×Int×Unit
def zCe:Ce:=(Kcs,0,())
def Jkv(e:List (Int×Ce))(id:Int):Int:=((J8l ib id e).getD zCe).1.2.1
theorem clastG(id:Int) e:J59 id () e=some (Jkv e id):=rfl
theorem putG(c:Jcn)(b:Int)(e:List (Int×Ce))(h1:1<=c.2.1)(hb:0<=b)(hl:Jkv e c.1<c.2.1)(hc:Jcx c)(hf:(J8l ib c.1 e).isSome=true\/e.length<6):J4b c b () e=some (0,J8u ib c.1 (c,b,()) e):=by
 have hcc:J2r c=some c:=by unfold J2r Jj;unfold Jcx at hc;rw[oN];rfl
 unfold Jkv at hl;unfold J4b;rw[hcc];rw[oF,oF];cases hs:(J8l ib c.1 e).isSome with|true=>rw[Jbt,J93 (by have:¬c.2.1<=((J8l ib c.1 e).getD zCe).1.2.1:=(by omega);exact this)];rfl|false=>have hf:e.length<6:=(by rcases hf with h|h;(rw[hs]at h;cases h);exact h);rw[J8t,oF];rfl
noncomputable def Jdb(id:Int)(q:Qry)(h:Int)(l:List Pr):Jcn:=(id,h,(Jm0 id q h l).2.2.1,())
theorem openG{m j:Nat}(hj:j<m) r:J1z ((j:Int)+1) r (Jak g 0 m)=some (decide (0<(g j).2.2.1)):=by unfold J1z;rw[show J8l (Ty.beq (.int .i64)) ((j:Int)+1) (Jak g 0 m)=some (g j)from Jl1 g j m 0 (Nat.zero_le _) (by omega)];rfl
theorem qgetG{m j:Nat}(hj:j<m) r:J21 ((j:Int)+1) r (Jak g 0 m)=some ((g j).1,true):=by unfold J21;rw[show J8l (Ty.beq (.int .i64)) ((j:Int)+1) (Jak g 0 m)=some (g j)from Jl1 g j m 0 (Nat.zero_le _) (by omega)];rfl
theorem shutG{m j:Nat}(hj:j<m)(hu:0<(g j).2.2.1) r:J3x ((j:Int)+1) r (Jak g 0 m)=some (true,Jak (Kb8 g j ((g j).1,(g j).2.1,0,())) 0 m):=by unfold J3x;rw[show J8l (Ty.beq (.int .i64)) ((j:Int)+1) (Jak g 0 m)=some (g j)from Jl1 g j m 0 (Nat.zero_le _) (by omega)];simp;rw[J8t,oF];rw[show ∀y:Ent,J8u (Ty.beq (.int .i64)) ((j:Int)+1) y (Jak g 0 m)=Jak (Kb8 g j y) 0 m from λy=>Joi g j y m 0 (Nat.zero_le _) (by omega)]
theorem Kai{m j:Nat}(hj:j<m)(hu:0<(g j).2.2.1)(hq:(g j).1.1=1\/(g j).1.1=2)(hrow:K2m l)(hh:1<=h/\h<=16)(hfz:cli.2.2.2.1=false)(hexp:J16 now cli=some false)(hroot:Jy h cli=some (Jcl l,true,cli))(hlast:Jkv e ((j:Int)+1)<h)(hf:(J8l ib ((j:Int)+1) e).isSome=true\/e.length<6)(hcl:cl.length<8)(hco:∀c∈cl,Jcx c)(hb:0<=r.2.1) mi x10 x11 x12 x13 x15:J23 (Jm0 ((j:Int)+1) (g j).1 h l) now () cli r (Jak g 0 m) () e (cl,()) mi x10 x11 x12 x13 () x15=some (0,cli,Jak (Kb8 g j ((g j).1,(g j).2.1,0,())) 0 m,J8u ib ((j:Int)+1) (Jdb ((j:Int)+1) (g j).1 h l,r.2.1,()) e,(cl++[Jdb ((j:Int)+1) (g j).1 h l],())):=by obtain⟨a1,a2⟩:=K0r hrow hq ((j:Int)+1) h hh;obtain⟨o1,o2,o3,o4,o5⟩:=Jms ((j:Int)+1) (g j).1 h l hrow;have hC:Jcx (Jdb ((j:Int)+1) (g j).1 h l):=(by unfold Jcx Jdb;dsimp only;omega);unfold J23;rw[a1,J8a,show(!true)=false from rfl,J8t,o4,o5,openG hj,J8a,decide_eq_true hu,show(!true)=false from rfl,J8t];rw[show J3u cli=some false from by unfold J3u;rw[hfz],J8a,J8t,hexp,J8a,J8t,clastG,J8a,oF,hroot,J8a];rw[show(!true)=false from rfl,J8t,roomG cl (by omega),J8a,oF,qgetG hj,J8a];dsimp only;rw[a2,J8a,show(!decide ((0:Int)=0))=false from rfl,J8t,show J26 r (Jak g 0 m)=some r.2.1 from rfl,J8a];rw[show((((j:Int)+1),h,(Jm0 ((j:Int)+1) (g j).1 h l).2.2.1,()):Jcn)=Jdb ((j:Int)+1) (g j).1 h l from rfl];rw[putG (Jdb ((j:Int)+1) (g j).1 h l) r.2.1 e hh.1 hb hlast hC hf,J8a];dsimp only;rw[show(!decide ((0:Int)=0))=false from rfl,J8t,pushG _ cl hcl hC hco,shutG hj hu];rfl
theorem Kd4(hn0:Jel now0)(hR:∀l∈R,Jel l)(hlen:R.length<=16){m j:Nat}(hj:j<m)(hu:0<(g j).2.2.1)(hq:(g j).1.1=1\/(g j).1.1=2){i:Nat}(hi:R.length - 6<=i/\i<R.length)(hrow:K2m (R.getD i []))(hfz:cli.2.2.2.1=false)(hexp:J16 now cli=some false)(hroot:Jy ((i:Int)+1) cli=some (Jcl (R.getD i []),true,cli))(hlast:Jkv e ((j:Int)+1)<(i:Int)+1)(hf:(J8l ib ((j:Int)+1) e).isSome=true\/e.length<6)(hcl:cl.length<8)(hco:∀c∈cl,Jcx c)(hb:0<=r.2.1)(q:Int) D K V mi x10 x11 x12 x13 x15 (ac:List Jcn) (hac:ac.length<=1000):J22 ((j:Int)+1) ((i:Int)+1) now q () () D K V (stR now0 R) B () cli r (Jak g 0 m) () e (cl,()) mi x10 x11 x12 x13 () x15 ac=some (0,cli,Jak (Kb8 g j ((g j).1,(g j).2.1,0,())) 0 m,J8u ib ((j:Int)+1) (Jdb ((j:Int)+1) (g j).1 ((i:Int)+1) (R.getD i []),r.2.1,()) e,(cl++[Jdb ((j:Int)+1) (g j).1 ((i:Int)+1) (R.getD i [])],()),ac++[Jdb ((j:Int)+1) (g j).1 ((i:Int)+1) (R.getD i [])]):=by obtain⟨o1,o2,o3,o4,o5⟩:=Jms ((j:Int)+1) (g j).1 ((i:Int)+1) (R.getD i []) hrow;have hAt:J5i ((i:Int)+1) () D K V (stR now0 R) B=some (R.getD i [],true):=(by unfold J5i;rw[K71 _ (K72 hn0 hR hlen),J8a,stR_at,oI,show((i:Int)+1 - 1).toNat=i from by omega]);unfold J22;rw[show J19 () cli r (Jak g 0 m) () e (cl,()) mi x10 x11 x12 x13 () x15=some ()from rfl,J8a,qgetG hj,J8a,hAt,J8a];rw[show(!true)=false from rfl,J8t,J8t,Kd3 hrow hq,J8a];unfold J2g;rw[Kai hj hu hq hrow (by omega) hfz hexp hroot hlast hf hcl hco hb,J8a];unfold Jj;rw[oN,J8a,J8d (by simp;omega),o4,o5];rfl
def Kag(t r:Int):List UInt8:=Jd9 [t,r]
def K1z(n:List UInt8)(t r:Int):Pr:=([115,47]++n,Kag t r,())
def Amt(n:Int):Prop:=0<=n/\n<=1073741824
theorem Jla(h:Amt n):J3e n=some true:=by unfold J3e;rw[J8y h.1,decide_eq_true h.2]
theorem K65(ht:Amt t)(hr:Amt r):J4r t r=some (Kag t r):=by unfold J4r;rw[Jla ht,Jla hr,put_eq _ (by simp)];rfl
theorem Jyc(l:List UInt8)(h:l.length<=1000):J6i l=some (l,false,()):=by unfold J6i;rw[J8d (by rw[List.length_nil];omega)];rfl
theorem Kh t r:(Kag t r).length<=14:=by have:=Jsd [t,r];unfold Kag;omega
theorem Kaf(ht:Amt t)(hr:Amt r):J4l (Kag t r)=some (t,r,true):=by
 have e:Kag t r=Jep t++(Jep r++[]):=by unfold Kag Jd9;simp
 have hl:=Kh t r;unfold J4l;rw[Jyc _ (by omega),J8a,e,number_eq,K5c t ht.1 (by have:=ht.2;omega),J8a];rw[number_eq,K5c r hr.1 (by have:=hr.2;omega),J8a,Kdl,J8a];rw[show(!(!false&&decide (([]:List UInt8)=[])))=false from rfl,J8t,Jla ht,J8a,Bool.not_true,J8t,Jla hr,J8a,Bool.not_true,J8t]
theorem Kae:J4l []=some (0,0,false):=by unfold J4l;rw[show J6i []=some ([],false,())from rfl,J8a,number_eq,J8a,number_eq];rfl
def Jt9:List (List UInt8×Int×Int)->Int
 |[]=>0
 |x::r=>x.2.1+x.2.2+Jt9 r
def Jme(l:List (List UInt8×Int×Int)):List Pr:=l.map λx=>K1z x.1 x.2.1 x.2.2
theorem is_key n:J5x ([115,47]++n)=some true:=by
 unfold J5x J69 J5f;have hl:(([115,47]++n).length:Int)=(n.length:Int)+2:=by simp;omega
 have h2:(([115,47]:List UInt8).length:Int)=2:=rfl;rw[hl,oT,oN];rfl
theorem Kbw n t r:J5x (K1z n t r).1=some true:=is_key n
theorem Joh(x:List UInt8×Int×Int) r:Jt9 (x::r)=x.2.1+x.2.2+Jt9 r:=rfl
theorem Jg0:∀{l:List (List UInt8×Int×Int)},(∀x∈l,Amt x.2.1/\Amt x.2.2)->0<=Jt9 l
 |[],_=>Int.le_refl _
 |x::r,h=>by have h1:=h x (List.mem_cons_self ..);have h2:=Jg0 λy hy=>h y (List.mem_cons_of_mem _ hy);have:=h1.1.1;have:=h1.2.1;rw[Joh];omega
theorem Jto(l:List Pr)(n:Nat)(hn:l.length=n)(hn2:n<=1000):∀(m:List (List UInt8×Int×Int)) (acc:Int) (i:Nat),i+m.length=n->l.drop i=Jme m->(∀x∈m,Amt x.2.1/\Amt x.2.2)->0<=acc->acc+Jt9 m<=1073741824->
  J0g_1 acc l (n:Int) (i:Int)=some (.inr (acc+Jt9 m))
 |[],acc,i,hi,hd,hm,h0,h1=>by unfold J0g_1;refine J96 ?_;unfold J0g_1_step;rw[J93 (by simp at hi;omega)];rw[show Jt9 []=0 from rfl,Int.add_zero]
 |x::m,acc,i,hi,hd,hm,h0,h1=>by simp only[List.length_cons]at hi;have hx:=hm x (List.mem_cons_self ..);have hs:=Jg0 (l:=m) λy hy=>hm y (List.mem_cons_of_mem _ hy);have a1:=hx.1.1;have a2:=hx.2.1;have a3:=hx.1.2;have a4:=hx.2.2;rw[Joh]at h1;have hg:l.getD i zPr=K1z x.1 x.2.1 x.2.2:=(by have:(l.drop i)[0]? =some (K1z x.1 x.2.1 x.2.2):=(by rw[hd];rfl);grind);have hd2:l.drop (i+1)=Jme m:=(by have:(l.drop i).drop 1=Jme m:=(by rw[hd];rfl);rw[List.drop_drop]at this;exact this);have ih:=Jto l n hn hn2 m (acc+(x.2.1+x.2.2)) (i+1) (by omega) hd2 (λy hy=>hm y (List.mem_cons_of_mem _ hy)) (by omega) (by omega);unfold J0g_1 at ih⊢;rw[J9l (s':=(acc+(x.2.1+x.2.2),((i+1:Nat):Int))) (by unfold J0g_1_step;rw[oT,oN,Int.toNat_natCast,show(([]:List UInt8),([]:List UInt8),())=zPr from rfl,hg,Kbw,J8a,Bool.not_true,J8t,show(K1z x.1 x.2.1 x.2.2).2.1=Kag x.2.1 x.2.2 from rfl,Kaf hx.1 hx.2,J8a];dsimp only;rw[Bool.not_true,J8t,oX (x.2.1+x.2.2),oW,oX ((i:Int)+1)];rfl),ih,Joh];congr 2;omega
theorem Jlf(m:List (List UInt8×Int×Int))(hl:m.length<=1000)(hm:∀x∈m,Amt x.2.1/\Amt x.2.2)(h1:Jt9 m<=1073741824):J0g (Jme m)=some (Jt9 m,true):=by
 have hlen:(Jme m).length=m.length:=List.length_map _;have:=Jto (Jme m) m.length hlen hl m 0 0 (by omega) rfl hm (Int.le_refl _) (by omega);unfold J0g;rw[hlen,show(0:Int)=((0:Nat):Int)from rfl]at*
 rw[this,J8a];dsimp only;rw[Int.natCast_zero,Int.zero_add,Jla ⟨Jg0 hm,h1⟩,J8a,Bool.not_true,J8t]
theorem Jkt(n:List UInt8)(h:n.length<=1000):J2l n=some ([115,47]++n):=by unfold J2l;rw[J8d (by simp;omega)]
theorem Kb7(l:List Pr)(hl:Jel l)(n:List UInt8)(hn:n≠[]/\n.length<=14)(hat:Ji1 l ([115,47]++n)=false)(hlen:l.length<30)(x:Int)(hx:Amt x)(s:Int)(hb:J0g (K5v l (K1z n x 0))=some (s,true)):J54 l n x=some (K5v l (K1z n x 0),0):=by
 have hr:=hl.1;have z:Amt 0:=⟨by omega,by omega⟩;have hx1:=hx.1;have hx2:=hx.2;have hm:Jxf (K1z n x 0)=true:=by have:=Kh x 0;unfold Jxf K1z;grind
 have hset:Jpe l (K1z n x 0)=(K5v l (K1z n x 0),true):=by unfold Jpe;rw[hm,decide_eq_true hlen];simp
 unfold J54 J2i;rw[Jkt n (by omega),J8a,J93 hn.1,J93 (by simp;omega),Jla hx,J8a,Bool.not_true,J8t,Jft l hr (by have:=hl.2.1;omega),J8a,hat,if_neg (by simp),Kae,J8a];dsimp only;unfold J2i_1;rw[J8t,Bool.not_false,Jbt,Bool.not_true,J8t,J8a];dsimp only;unfold J5e;rw[J8a,Int.zero_add,oW];dsimp only;rw[K65 hx z,J8a,show(([115,47]++n,Kag x 0,()):Pr)=K1z n x 0 from rfl,Jx8 l hr (by have:=hl.2.1;omega),J8a,hset];dsimp only;rw[Bool.not_true,J8t,hb,J8a];rfl
abbrev SRec:=List UInt8×Int×Int
abbrev Mir:=Int×Int×List Pr×Bool×Unit
theorem Jsl(m:List SRec):(Jme m).length=m.length:=List.length_map _
theorem Kfe(m:List SRec)(hi:i<m.length):∃x∈m,(Jme m).getD i zPr=K1z x.1 x.2.1 x.2.2:=by have hm:(Jme m).getD i zPr∈Jme m:=Ja7 (by rw[Jsl];exact hi);obtain⟨x,hx,e⟩:=List.mem_map.1 hm;exact⟨x,hx,e.symm⟩
theorem Jr6(m:List SRec)(hl:m.length<=1000):J1d (Jme m)=some false:=by
 have hlen:=Jsl m;have e:Jn_1 (Jme m) ((Jme m).length:Int) 0=some (.inr ()):=by
  refine J8p (step:=λ(s:Int)=>Jn_1_step (Jme m) ((Jme m).length:Int) s) (λi (_:Unit)=>(i:Int)) (λ_ _=>()) (λ_=>.inr ()) m.length (λ_ _=>True) (λi w hi _=>⟨?_,trivial⟩) (λw _=> ?_) m.length 0 () (by omega) trivial;·unfold Jn_1_step J5k;obtain⟨x,hx,ex⟩:=Kfe m hi;rw[oT,oN,Int.toNat_natCast,show(([]:List UInt8),([]:List UInt8),())=zPr from rfl,ex,Kbw,J8a];rw[oW];rfl
  unfold Jn_1_step;rw[oF]
 unfold J1d Jn;rw[e];rfl
theorem takeG(m:List SRec)(hl:m.length<=1000)(hm:∀x∈m,Amt x.2.1/\Amt x.2.2)(h1:Jt9 m<=1073741824)(hk:J2e (Jme m)=some true)(h:Int)(mi:Mir)(hh:1<=h/\mi.1<=h):J3d (1,h,Jme m,()) mi=some (0,h,Jt9 m,Jme m,false,()):=by have hlen:=Jsl m;unfold J3d;dsimp only;rw[hk,J8a,show(!true)=false from rfl,J8t,Jr6 m hl,J8a,J8t,oF,Jlf m hl hm h1,J8a];rw[show(!true)=false from rfl,J8t];unfold Jj;rw[oN,J8a]
abbrev K7o:=Mir×Int×Bool
noncomputable def Jr2(c:Jcn)(s:K7o)(y z:Int)(us:List (List UInt8×Int)):Option (Mir×Int×Bool):=J1w c () ([],[],0,false,()) (0,0,0,()) [] () [] ([],()) s.1 s.2.1 y z s.2.2 () us
theorem Jts c (s:K7o) y z us cli r reg ca cq:J1w c () cli r reg () ca cq s.1 s.2.1 y z s.2.2 () us=Jr2 c s y z us:=rfl
theorem K0y(m:List SRec)(hl:m.length<=1000)(hm:∀x∈m,Amt x.2.1/\Amt x.2.2)(hk:J2e (Jme m)=some true)(h:Int)(s:K7o)(hh:1<=h/\s.1.1<=h){us:List (List UInt8×Int)}(hL:Jcc s.2.1 y z us)(hy:Jt9 m<=1073741824 - y):Jr2 (1,h,Jme m,()) s y z us=some ((h,Jt9 m,Jme m,false,()),Jt9 m,false)/\Jcc (Jt9 m) y z us:=by have hp:=hL.p0;obtain⟨e,o⟩:=K9p hL (Jt9 m) (Jg0 hm) hy s.2.2 ();refine⟨?_,o⟩;unfold Jr2 J1w;rw[takeG m hl hm (by omega) hk h s.1 hh,J8a];rw[show J49 (h,Jt9 m,Jme m,false,())=some (Jt9 m)from rfl,J8a,e];rfl
def Jqv(y z:Int)(us:List (List UInt8×Int)):List Jcn->K7o->K7o->Prop
 |[],s,t=>s=t
 |c::l,s,t=>∃u,Jr2 c s y z us=some u/\Jqv y z us l u t
theorem Jpj cli r reg ca y z us:
  ∀(l:List Jcn) (s t:K7o) (c:Jcn),l.length<=1000->Jqv y z us (c::l) s t->
   Jk_1 true () cli r reg () ca (l,()) s.1 s.2.1 y z s.2.2 () us c=some ((),cli,r,reg,(),ca,([],()),t.1,t.2.1,y,z,t.2.2,(),us)
 |[],s,t,c,hl,h=>by obtain⟨u,h1,h2⟩:=h;subst h2;unfold Jk_1;rw[J9l (s':=(false,([],()),u.1,u.2.1,u.2.2,Kcs)) (by unfold Jk_1_step;rw[Jts,h1];rfl)];exact J96 rfl
 |d::l,s,t,c,hl,h=>by obtain⟨u,h1,h2⟩:=h;have ih:=Jpj cli r reg ca y z us l u t d (by rw[List.length_cons]at hl;omega) h2;unfold Jk_1 at ih⊢;rw[J9l (s':=(true,(l,()),u.1,u.2.1,u.2.2,d)) (by unfold Jk_1_step;rw[Jts,h1,popG d l (by rw[List.length_cons]at hl;omega)];rfl)];exact ih
theorem K8k cli (hm:m<=12) (hg:∀j,Jtb (g j)) a b l (hb:0<=b/\b<100000) (hl:0<=l/\l<=100000) ca (cl:List Jcn) (hcl:cl.length<=100) y z us (s t:K7o) (h:Jqv y z us cl s t):Jk () cli (a,b,l,()) (Jak g 0 m) () ca (cl,()) s.1 s.2.1 y z s.2.2 () us=some ((),cli,(a,b+1,l+(Jc4 (λj=>Jas (b+1) (g j)) m).length,()),Jak (λj=>Jqx (b+1) (Jdc (b+1) (g j))) 0 m,(),ca,([],()),t.1,t.2.1,y,z,t.2.2,(),us,Jc4 (λj=>Jas (b+1) (g j)) m,Jc4 (λj=>Jf2 (b+1) (Jdc (b+1) (g j))) m):=by
 unfold Jk;cases cl with
 |nil=>cases h;rw[popG0,J8a];have e:Jk_1 false () cli (a,b,l,()) (Jak g 0 m) () ca ([],()) s.1 s.2.1 y z s.2.2 () us Kcs=some ((),cli,(a,b,l,()),Jak g 0 m,(),ca,([],()),s.1,s.2.1,y,z,s.2.2,(),us):=(by exact J96 rfl);rw[e,J8a];rw[K7b m hm g hg a b l hb hl,J8a]
 |cons c cl=>rw[popG c cl (by rw[List.length_cons]at hcl;omega),J8a];rw[Jpj cli _ _ ca y z us cl s t c (by rw[List.length_cons]at hcl;omega) h,J8a];rw[K7b m hm g hg a b l hb hl,J8a]
abbrev TxT:=Int×List UInt8×List UInt8×Int×Int×Unit
abbrev zTx:TxT:=(0,[],[],0,0,())
abbrev zQy:Qry:=(0,[],[],0,0,())
abbrev WRes:=Int×Int×List Int×List Int×Jcn×Unit
abbrev zR(a b:Int)(k l:List Int):WRes:=(a,b,k,l,(0,0,[],()),())
theorem do_tx now q D K V s B c r e ca cq mi x y z hb us ac t (er:Int) s' V' (h:J4v t () D K V s B=some (er,(),D,K,s',B,V')):Jv (1,0,0,[],t,zQy,[],()) now q () () D K V s B () c r e () ca cq mi x y z hb () us ac=some (zR er 0 [] [],now,q,(),(),D,K,s',(),c,r,e,(),ca,cq,mi,x,y,z,hb,(),us,V',B,ac):=by unfold Jv;rw[h];try rfl
theorem K3w now q D K V s B c r e ca cq mi x y z hb us ac t k (hk:k≠0) s' B' (h:J9 t () D K V s B=some (k,(),D,K,V,s',B')):Jv (2,t,0,[],zTx,zQy,[],()) now q () () D K V s B () c r e () ca cq mi x y z hb () us ac=some (zR 0 k [] [],now,q,(),(),D,K,s',(),c,r,e,(),ca,cq,mi,x,y,z,hb,(),us,V,B',ac):=by unfold Jv;rw[h,J8a,J93 hk];try rfl
theorem K8p now q D K V s B c r e ca cq mi x y z hb us ac (t:Int) (h1:now<=t) (h2:t<=1073741824):Jv (3,t,0,[],zTx,zQy,[],()) now q () () D K V s B () c r e () ca cq mi x y z hb () us ac=some (zR 0 0 [] [],t,q,(),(),D,K,s,(),c,r,e,(),ca,cq,mi,x,y,z,hb,(),us,V,B,ac):=by unfold Jv;rw[show J4g (3,t,0,([]:List UInt8),zTx,zQy,([]:List UInt8),()).2.1 now q () () D K V s B () c r e () ca cq mi x y z hb () us ac=some (0,t)from by unfold J4g;rw[J93 (show ¬t<now by omega),J93 (show ¬1073741824<t by omega)]];try rfl
theorem K8o now q D K V s B c r e ca cq mi x y z hb us ac r' e' (t:K7o) k l (h:Jk () c r e () ca cq mi x y z hb () us=some ((),c,r',e',(),ca,([],()),t.1,t.2.1,y,z,t.2.2,(),us,k,l)):Jv (5,0,0,[],zTx,zQy,[],()) now q () () D K V s B () c r e () ca cq mi x y z hb () us ac=some (zR 0 0 k l,now,q,(),(),D,K,s,(),c,r',e',(),ca,([],()),t.1,t.2.1,y,z,t.2.2,(),us,V,B,ac):=by unfold Jv;rw[h];try rfl
theorem K8q now q D K V s B c r e ca cq mi x y z hb us ac (er n a b:Int) c' e' ca' cq' ac' (h:Jt now q () () D K V s B () c r e () ca cq mi x y z hb () us ac=some (zR er n [] [],now,q,(),(),D,K,V,s,B,(),c',r,e',(),ca',cq',mi,x,y,z,hb,(),us,ac')):Jv (13,0,0,[],zTx,zQy,[],()) now q () () D K V s B () c r e () ca cq mi x y z hb () us ac=some (zR er n [] [],now,q,(),(),D,K,s,(),c',r,e',(),ca',cq',mi,x,y,z,hb,(),us,V,B,ac'):=by unfold Jv;rw[h];try rfl
theorem getP k k2 v:∀e:List (Int×Ce),J8l ib k2 (J8u ib k v e)=if k2=k then some v else J8l ib k2 e
 |[]=>by
  unfold J8u J8l;rw[Jne];by_cases c:k2=k;·grind
  rw[decide_eq_false c,if_neg c];rfl
 |p::e=>by
  unfold J8u;rw[Jne];by_cases c:k=p.1;·rw[decide_eq_true c,cond_true];unfold J8l;rw[Jne];grind
  rw[decide_eq_false c,cond_false];unfold J8l;rw[Jne];by_cases c2:k2=p.1;·grind
  rw[decide_eq_false c2];exact getP k k2 v e
theorem lenP(k:Int) v:∀e:List (Int×Ce),(J8u ib k v e).length=if(J8l ib k e).isSome=true then e.length else e.length+1
 |[]=>rfl
 |p::e=>by
  unfold J8u J8l;rw[Jne];by_cases c:k=p.1;·grind
  rw[decide_eq_false c,cond_false,cond_false,List.length_cons,lenP k v e];split<;>simp
def K7q(e:List (Int×Ce)):Nat->Nat
 |0=>0
 |i+1=>K7q e i+if(J8l ib ((i:Int)+1) e).isSome=true then 1 else 0
theorem Kbo e:∀i,K7q e i<=i
 |0=>Nat.le_refl _
 |i+1=>by unfold K7q;have:=Kbo e i;split<;>omega
theorem cnt_lt{j:Nat}(h:(J8l ib ((j:Int)+1) e).isSome=false):∀i,j<i->K7q e i+1<=i
 |0,hj=>by omega
 |i+1,hj=>by
  unfold K7q;by_cases c:j=i;·subst c;rw[h];have:=Kbo e j;simp;omega
  have:=cnt_lt h i (by omega);split<;>omega
theorem K3g{j:Nat} v:∀i,K7q (J8u ib ((j:Int)+1) v e) i=K7q e i+if j<i/\(J8l ib ((j:Int)+1) e).isSome=false then 1 else 0
 |0=>by simp[K7q]
 |i+1=>by unfold K7q;rw[K3g v i,getP];grind
def K7m(m:Nat)(e:List (Int×Ce)):Prop:=e.length=K7q e m
theorem Kdc(hm:m<=6)(h:K7m m e){j:Nat}(hj:j<m):(J8l ib ((j:Int)+1) e).isSome=true\/e.length<6:=by cases c:(J8l ib ((j:Int)+1) e).isSome with|true=>exact .inl rfl|false=>have:=cnt_lt c m hj;unfold K7m at h;exact .inr (by omega)
theorem ca_put(h:K7m m e){j:Nat}(hj:j<m) v:K7m m (J8u ib ((j:Int)+1) v e):=by unfold K7m at h⊢;rw[lenP,K3g,h];grind
theorem K9n k k2 (v:Ce) e:Jkv (J8u ib k v e) k2=if k2=k then v.1.2.1 else Jkv e k2:=by unfold Jkv;rw[getP];split<;>rfl
def Jl8(y:Ent):Ent:=if 0<y.2.2.1 then(y.1,y.2.1,0,())else y
section
variable (g : Nat → Ent) (h : Int) (l : List Pr) (b : Int) (e : List (Int × Ce))
noncomputable def Ja4:Nat->List Jcn
 |0=>[]
 |i+1=>Ja4 i++if 0<(g i).2.2.1 then[Jdb ((i:Int)+1) (g i).1 h l]else[]
noncomputable def Jdr:Nat->List (Int×Ce)
 |0=>e
 |i+1=>if 0<(g i).2.2.1 then J8u ib ((i:Int)+1) (Jdb ((i:Int)+1) (g i).1 h l,b,()) (Jdr i)else Jdr i
theorem Jl5:∀i,(Ja4 g h l i).length<=i
 |0=>Nat.le_refl _
 |i+1=>by unfold Ja4;have:=Jl5 i;split<;>simp<;>omega
theorem Kau{i:Nat}(c:0<(g i).2.2.1):Ja4 g h l (i+1)=Ja4 g h l i++[Jdb ((i:Int)+1) (g i).1 h l]:=by show _++_=_;rw[if_pos c]
theorem Kat(c:¬0<(g i).2.2.1):Ja4 g h l (i+1)=Ja4 g h l i:=by show _++_=_;rw[if_neg c,List.append_nil]
theorem Jwd{i:Nat}(c:0<(g i).2.2.1):Jdr g h l b e (i+1)=J8u ib ((i:Int)+1) (Jdb ((i:Int)+1) (g i).1 h l,b,()) (Jdr g h l b e i):=if_pos c
theorem Jwc(c:¬0<(g i).2.2.1):Jdr g h l b e (i+1)=Jdr g h l b e i:=if_neg c
end
theorem Jvg g (h:Int) (hrow:K2m l):∀i,∀c∈Ja4 g h l i,Jcx c
 |0,c,hc=>by cases hc
 |i+1,c,hc=>by
  rcases List.mem_append.1 hc with hc|hc;·exact Jvg g h hrow i c hc
  split at hc;·rw[List.mem_singleton]at hc;have:=(Jms ((i:Int)+1) (g i).1 h l hrow).2.1;subst hc;unfold Jcx Jdb;dsimp only;omega
  cases hc
theorem Jr1 g (h:Int) l (b:Int) (he:K7m m e):∀i,i<=m->K7m m (Jdr g h l b e i)
 |0,_=>he
 |i+1,hi=>by
  by_cases c:0<(g i).2.2.1;·rw[Jwd g h l b e c];exact ca_put (Jr1 g h l b he i (by omega)) (by omega) _
  rw[Jwc g h l b e c];exact Jr1 g h l b he i (by omega)
theorem Jig g (h:Int) l (b:Int) e {j:Nat}:∀i,i<=j->Jkv (Jdr g h l b e i) ((j:Int)+1)=Jkv e ((j:Int)+1)
 |0,_=>rfl
 |i+1,hi=>by
  by_cases c:0<(g i).2.2.1;·rw[Jwd g h l b e c,K9n,oJ,Jig g h l b e i (by omega)]
  rw[Jwc g h l b e c,Jig g h l b e i (by omega)]
section
variable {n : Nat} {p f : Nat → Int} {R : List (List Pr)} {now0 : List Pr}
theorem K6l(hn0:Jel now0)(hR:∀l∈R,Jel l)(hlen:R.length<=16){m:Nat}(hm:m<=6)(hq:∀j,j<m->(g j).1.1=1\/(g j).1.1=2){i:Nat}(hi:R.length - 6<=i/\i<R.length)(hrow:K2m (R.getD i []))(hfz:cli.2.2.2.1=false)(hexp:J16 now cli=some false)(hroot:Jy ((i:Int)+1) cli=some (Jcl (R.getD i []),true,cli))(he:K7m m e)(hlast:∀j,j<m->Jkv e ((j:Int)+1)<(i:Int)+1)(hb:0<=r.2.1) D K V mi x10 x11 x12 x13 x15 (ac:List Jcn) (hac:ac.length<=900) (a0 a1 a2 a3 a6 a8 a9 a10:Int) (er:Int):Jt_1 ((i:Int)+1) 1 now (m:Int) () () D K V (stR now0 R) B () cli r (Jak g 0 m) () e ([],()) mi x10 x11 x12 x13 () x15 ac a0 a1 a2 a3 () () er 0 a8 a9 () ()=some (now,(m:Int),(),(),D,K,V,stR now0 R,B,(),cli,r,Jak (λj=>Jl8 (g j)) 0 m,(),Jdr g ((i:Int)+1) (R.getD i []) r.2.1 e m,(Ja4 g ((i:Int)+1) (R.getD i []) m,()),mi,x10,x11,x12,x13,(),x15,ac++Ja4 g ((i:Int)+1) (R.getD i []) m,a0,a1,a2,a3,(),(),er,((Ja4 g ((i:Int)+1) (R.getD i []) m).length:Int),a8,a9,(),()):=by
 have hend:Jak (part Jl8 g m) 0 m=Jak (λj=>Jl8 (g j)) 0 m:=Jcj m 0 λj _ h2=>oI;have hst:=part_0 Jl8 g m;rw[<-hend,<-hst];unfold Jt_1
 have:=J8p (step:=λ(s:Int×Cli×List (Int×Ent)×List (Int×Ce)×(List Jcn×Unit)×List Jcn×Int×Int)=>Jt_1_step ((i:Int)+1) s.1 now (m:Int) () () D K V (stR now0 R) B () s.2.1 r s.2.2.1 () s.2.2.2.1 s.2.2.2.2.1 mi x10 x11 x12 x13 () x15 s.2.2.2.2.2.1 a0 a1 a2 a3 () () s.2.2.2.2.2.2.1 s.2.2.2.2.2.2.2 a8 a9 () ())
   (λk (_:Unit)=>((k:Int)+1,cli,Jak (part Jl8 g k) 0 m,Jdr g ((i:Int)+1) (R.getD i []) r.2.1 e k,(Ja4 g ((i:Int)+1) (R.getD i []) k,()),ac++Ja4 g ((i:Int)+1) (R.getD i []) k,er,((Ja4 g ((i:Int)+1) (R.getD i []) k).length:Int))) (λ_ _=>())
   (λ_=>(now,(m:Int),(),(),D,K,V,stR now0 R,B,(),cli,r,Jak (part Jl8 g m) 0 m,(),Jdr g ((i:Int)+1) (R.getD i []) r.2.1 e m,(Ja4 g ((i:Int)+1) (R.getD i []) m,()),mi,x10,x11,x12,x13,(),x15,ac++Ja4 g ((i:Int)+1) (R.getD i []) m,a0,a1,a2,a3,(),(),er,((Ja4 g ((i:Int)+1) (R.getD i []) m).length:Int),a8,a9,(),())) m (λ_ _=>True) (λk w hk _=>⟨?_,trivial⟩) (λw _=> ?_) m 0 () (by omega) trivial
 ·simpa[Ja4,Jdr]using this
 ·dsimp only;have hsl:=Jl5 g ((i:Int)+1) (R.getD i []) k;have hgk:part Jl8 g k k=g k:=if_neg (Nat.lt_irrefl k);unfold Jt_1_step;rw[oT,show J19 () cli r (Jak (part Jl8 g k) 0 m) () (Jdr g ((i:Int)+1) (R.getD i []) r.2.1 e k) (Ja4 g ((i:Int)+1) (R.getD i []) k,()) mi x10 x11 x12 x13 () x15=some ()from rfl,J8a,openG hk,J8a,hgk,oW];by_cases c:0<(g k).2.2.1;·rw[decide_eq_true c,show(!true)=false from rfl,J8t];rw[Kd4 hn0 hR hlen hk (by rw[hgk];exact c) (by rw[hgk];exact hq k hk) hi hrow hfz hexp hroot (by rw[Jig _ _ _ _ _ k (Nat.le_refl _)];exact hlast k hk) (Kdc hm (Jr1 _ _ _ _ he k (by omega)) hk) (by omega) (Jvg g _ hrow k) hb _ _ _ _ _ _ _ _ _ _ _ (by rw[List.length_append];omega),J8a,hgk];dsimp only;rw[J8y rfl,oW,Jwd _ _ _ _ _ c,Kau _ _ _ c];have hp:=Jo8 Jl8 g m k hk;rw[show Jl8 (g k)=((g k).1,(g k).2.1,0,())from if_pos c]at hp;grind
  rw[decide_eq_false c,show(!false)=true from rfl,Jbt,Jwc _ _ _ _ _ c,Kat _ _ _ c,Jjq Jl8 g m k (if_neg c)];rfl
 dsimp only;unfold Jt_1_step;rw[oF]
theorem relayW(hp:Jkj p)(h1:1<=n)(hn:n<=4)(hR:R.length<=16)(hf:Jmn R.length f){j:Nat}(hj:1<=j/\j<R.length) T now (hnow:0<=now/\now<=1099511627776) (q1:¬T<now - f (j - 1)) (q2:f j<=now) (q:Int) s r e ca cq mi x y z hb us ac:J2b ((j:Int)+1) now q () () (J8o n) (J8r n) (J8n p n) s (BL n p f R) () (Ji5 n p f R T j) r e () ca cq mi x y z hb () us ac=some (0,Ji5 n p f R T (j+1)):=by unfold J2b;rw[Kbl hn hR hj.2,J8a];unfold J40;rw[Kg7 hp h1 hn hR hf hj T now hnow q1 q2];rfl
theorem serveW(hp:Jkj p)(h1:1<=n)(hn:n<=4)(hn0:Jel now0)(hR:∀l∈R,Jel l)(hlen:R.length<=16)(hf:Jmn R.length f){j:Nat}(hj:1<=j/\j+1=R.length)(hrow:K2m (R.getD j []))(hnow:0<=now/\now<=1099511627776)(q1:¬T<now - f (j - 1))(q2:f j<=now)(q3:¬T<now - f j){m:Nat}(hm:m<=6)(hq:∀j,j<m->(g j).1.1=1\/(g j).1.1=2)(he:K7m m e)(hlast:∀k,k<m->Jkv e ((k:Int)+1)<(j:Int)+1)(hb:0<=r.2.1) mi x y z hb2 us (ac:List Jcn) (hac:ac.length<=900):Jt now (m:Int) () () (J8o n) (J8r n) (J8n p n) (stR now0 R) (BL n p f R) () (Ji5 n p f R T j) r (Jak g 0 m) () e ([],()) mi x y z hb2 () us ac=some (zR 0 ((Ja4 g ((j:Int)+1) (R.getD j []) m).length:Int) [] [],now,(m:Int),(),(),J8o n,J8r n,J8n p n,stR now0 R,BL n p f R,(),Ji5 n p f R T (j+1),r,Jak (λk=>Jl8 (g k)) 0 m,(),Jdr g ((j:Int)+1) (R.getD j []) r.2.1 e m,(Ja4 g ((j:Int)+1) (R.getD j []) m,()),mi,x,y,z,hb2,(),us,ac++Ja4 g ((j:Int)+1) (R.getD j []) m):=by have hBL:=Jyg n p f R;unfold Jt;rw[show J4e () (J8o n) (J8r n) (J8n p n) (stR now0 R) (BL n p f R)=some ((j:Int)+1)from by unfold J4e;rw[hBL,<-hj.2];rfl,J8a];unfold J48 J2a;rw[show(Ji5 n p f R T j).1=hdK n p f R j from rfl,show(Ji5 n p f R T j).2.1=J8n p n from rfl,Jmw _ (by rw[Jks];omega),J8a,Jkn p hn,J8a,J8a,J8a];rw[latG hj.1,J8a,show(hL n p f R (j - 1)).1=((j - 1:Nat):Int)+1 from Ke1 _ _ _ _ _,oT,relayW hp h1 hn hlen hf ⟨hj.1,by omega⟩ T now hnow q1 q2,J8a];dsimp only;rw[K6l hn0 hR hlen hm hq (i:=j) (by omega) hrow rfl (by rw[expG hp hn hlen hf (by omega) T now hnow,show j+1 - 1=j from rfl,decide_eq_false q3]) (by have:=rootG (n:=n) (p:=p) (f:=f) (R:=R) (j:=j+1) T (h:=j) (by omega);exact this) he hlast hb _ _ _ _ _ _ _ _ _ _ hac 0 0 0 0 0 0 0 0 0,J8a]
end
def fI(j:Nat):Int:=(j:Int)+1
theorem Kdv(m:Nat)(hm:m<=1000):Jmn m fI:=⟨λi hi=>by unfold fI;omega,λi hi=>by unfold fI;omega⟩
def Jlx(b:Int)(g:Nat->Ent):Nat->Ent:=λj=>Jqx (b+1) (Jdc (b+1) (g j))
theorem K6t(R:List (List Pr)) l:(R++[l]).getD R.length []=l:=by grind
theorem Kci(hR:∀x∈R,Jel x)(hl:Jel l):∀x∈R++[l],Jel x:=λx hx=>by grind
section
variable {n : Nat} {p : Nat → Int} {R : List (List Pr)} {now0 : List Pr}
theorem Kdj(hp:Jkj p)(h1:1<=n)(hn:n<=4)(hn0:Jel now0)(hR:∀l∈R,Jel l)(hlen:1<=R.length/\R.length<16):J9 ((R.length:Int)+1) () (J8o n) (J8r n) (J8n p n) (stR now0 R) (BL n p fI R)=some ((R.length:Int)+1,(),J8o n,J8r n,J8n p n,stR now0 (R++[now0]),BL n p fI (R++[now0])):=Kdh hp h1 hn hlen hR hn0 (λj hj=>by unfold fI;omega) (by unfold fI;omega)
theorem Kcf(hp:Jkj p)(h1:1<=n)(hn:n<=4)(hn0:Jel now0)(hR:∀l∈R,Jel l)(hlen:1<=R.length/\R.length<16)(hrow:K2m now0)(hT:1<=T){m:Nat}(hm:m<=6)(hg:∀j,Jtb (g j))(hq:∀j,j<m->(Jlx b g j).1.1=1\/(Jlx b g j).1.1=2)(he:K7m m e)(hlast:∀j,j<m->Jkv e ((j:Int)+1)<(R.length:Int)+1)(hb:0<=b/\b<100000)(hl:0<=l/\l<=100000){cl:List Jcn}(hcl:cl.length<=100){y z:Int}{us:List (List UInt8×Int)}{s t:K7o}(hc:Jqv y z us cl s t)(ac:List Jcn)(hac:ac.length<=900){N i c:Int}(hi:i<c)(hi0:0<=i/\i<=1000)(hN:0<=N/\N<=1000):J11_1_step 1 N c i (R.length:Int) (m:Int) () () (J8o n) (J8r n) (stR now0 R) () (Ji5 n p fI R T R.length) (a,b,l,()) (Jak g 0 m) () e (cl,()) s.1 s.2.1 y z s.2.2 () us (J8n p n) (BL n p fI R) ac=some (.inl (N+((Ja4 (Jlx b g) ((R.length:Int)+1) now0 m).length:Int),i+1,(R.length:Int)+1,(m:Int),(),(),J8o n,J8r n,stR now0 (R++[now0]),(),Ji5 n p fI (R++[now0]) T (R.length+1),(a,b+1,l+(Jc4 (λj=>Jas (b+1) (g j)) m).length,()),Jak (λj=>Jl8 (Jlx b g j)) 0 m,(),Jdr (Jlx b g) ((R.length:Int)+1) now0 (b+1) e m,(Ja4 (Jlx b g) ((R.length:Int)+1) now0 m,()),t.1,t.2.1,y,z,t.2.2,(),us,J8n p n,BL n p fI (R++[now0]),ac++Ja4 (Jlx b g) ((R.length:Int)+1) now0 m)):=by have hl2:(R++[now0]).length=R.length+1:=(by rw[List.length_append];rfl);have hs:=Jl5 (Jlx b g) ((R.length:Int)+1) now0 m;have h3:=K8p (R.length:Int) (m:Int) (J8o n) (J8r n) (J8n p n) (stR now0 R) (BL n p fI R) (Ji5 n p fI R T R.length) (a,b,l,()) (Jak g 0 m) e (cl,()) s.1 s.2.1 y z s.2.2 us ac ((R.length:Int)+1) (by omega) (by omega);have h2:=K3w ((R.length:Int)+1) (m:Int) (J8o n) (J8r n) (J8n p n) (stR now0 R) (BL n p fI R) (Ji5 n p fI R T R.length) (a,b,l,()) (Jak g 0 m) e (cl,()) s.1 s.2.1 y z s.2.2 us ac ((R.length:Int)+1) ((R.length:Int)+1) (by omega) _ _ (Kdj hp h1 hn hn0 hR hlen);have hcb:=K8k (Ji5 n p fI R T R.length) (m:=m) (by omega) hg a b l hb hl e cl hcl y z us s t hc;rw[show(λj=>Jqx (b+1) (Jdc (b+1) (g j)))=Jlx b g from rfl]at hcb;have h5:=K8o ((R.length:Int)+1) (m:Int) (J8o n) (J8r n) (J8n p n) (stR now0 (R++[now0])) (BL n p fI (R++[now0])) (Ji5 n p fI R T R.length) (a,b,l,()) (Jak g 0 m) e (cl,()) s.1 s.2.1 y z s.2.2 us ac _ _ t _ _ hcb;have hsv:=serveW (n:=n) (p:=p) (f:=fI) (now0:=now0) hp h1 hn hn0 (Kci hR hn0) (by omega) (Kdv _ (by omega)) (by omega) (by rw[K6t];exact hrow) (T:=T) (now:=(R.length:Int)+1) (by omega) (by unfold fI;omega) (by unfold fI;omega) (by unfold fI;omega) hm hq he hlast (r:=(a,b+1,l+(Jc4 (λj=>Jas (b+1) (g j)) m).length,())) (by show 0<=b+1;omega) t.1 t.2.1 y z t.2.2 us ac hac;rw[K6t,K3e n p fI R now0 T (Nat.le_refl _)]at hsv;have h13:=K8q ((R.length:Int)+1) (m:Int) (J8o n) (J8r n) (J8n p n) (stR now0 (R++[now0])) (BL n p fI (R++[now0])) (Ji5 n p fI R T R.length) (a,b+1,l+(Jc4 (λj=>Jas (b+1) (g j)) m).length,()) (Jak (Jlx b g) 0 m) e ([],()) t.1 t.2.1 y z t.2.2 us ac _ _ 0 0 _ _ _ _ _ hsv;unfold J11_1_step;rw[J8y hi];simp only[J52,J8a];rw[show max (1:Int) 1=1 from rfl,oW];rw[show Jv _ _ _ _ _ _ _ _ _ _ _ _ _ _ _ _ _ _ _ _ _ _ _ _ _=_ from h3,J8a];rw[show Jv _ _ _ _ _ _ _ _ _ _ _ _ _ _ _ _ _ _ _ _ _ _ _ _ _=_ from h2,J8a];dsimp only;rw[show Jv _ _ _ _ _ _ _ _ _ _ _ _ _ _ _ _ _ _ _ _ _ _ _ _ _=_ from h5,J8a];dsimp only;rw[show Jv _ _ _ _ _ _ _ _ _ _ _ _ _ _ _ _ _ _ _ _ _ _ _ _ _=_ from h13,J8a];dsimp only;rw[oW,oW]
end
def R1:Pr:=([115,47,97],[9,0],())
theorem K0t:J0g [R1]=some (9,true):=Jlf [([97],9,0)] (by simp) (λx hx=>by rw[List.mem_singleton.1 hx];exact⟨⟨by decide,by decide⟩,by decide,by decide⟩) (by decide)
theorem K6a:Jaz [R1]:=by simp[Jaz]
theorem Kcg:K81 [R1]:=⟨K6a,by decide,by decide,by decide⟩
theorem Jxy:Jel [R1]:=by have h:=Kcj (Jov K73) ([115,47,97],[9,0],());exact h.1
theorem Joq:∀l∈[([]:List Pr)],Jel l:=λl h=>by rw[List.mem_singleton.1 h];exact Jjz
theorem K3t:J54 [] [97] 9=some ([R1],0):=Kb7 [] Jjz [97] ⟨by simp,by simp⟩ rfl (by simp) 9 ⟨by decide,by decide⟩ 9 K0t
theorem Ke5 D K V B:J4v (3,[97],[],9,0,()) () D K V (stR [] [[]]) B=some (0,(),D,K,stR [R1] [[]],B,V):=by
 have e:J1h ([115,47,97],[9,0],()) ([],1,[[]],())=some (true,([R1],1,[[]],())):=by rw[K06 _ (by have:=Jov K73;exact this)];rfl
 show J89 (J54 [] [97] 9) _=_;rw[K3t,J8a];rw[show J2l [97]=some [115,47,97]from rfl,J8a,Jft [R1] K6a (by simp),J8a];show J89 (J1h ([115,47,97],[9,0],()) ([],1,[[]],())) _=_;rw[e];rfl
abbrev zM:Mir:=(0,0,[],false,())
theorem call_m(h:Int) l:Jdb 1 Qm h l=(1,h,Jch l [115,47] [115,48],()):=by rfl
theorem K3a(h:Int):Jdb 1 Qm h [R1]=(1,h,Jme [([97],9,0)],()):=by rw[call_m];rfl
theorem led0:Jcc 0 0 0 []:=⟨by omega,by omega,by omega,by omega,by omega,rfl,trivial⟩
def gB(b:Int):Nat->Ent:=λ_=>(Qm,b+1,0,())
theorem gB_ok(b:Int):∀j,Jtb (gB b j):=λ_=>⟨by show(0:Int)<=1;omega,by show(1:Int)<=1000;omega,by show(0:Int)<=3;omega,by show(3:Int)<=1000;omega⟩
theorem K59(b:Int)(h:0<=b):Jlx b (gB b)=λ_=>(Qm,b+1+1,b+1+3,()):=by funext j;unfold Jlx Jdc Jas gB Jqx Jf2;simp[Qm];omega
section
variable {n : Nat} {p : Nat → Int}
theorem Kfo(hp:Jkj p)(h1:1<=n)(hn:n<=4):∃r e ca cq ac,J11 2 1 1 1 () () (J8o n) (J8r n) (J8n p n) (stR [R1] [[]]) (BL n p fI [[]]) () (Ji5 n p fI [[]] 50 1) (1,0,0,()) (Jak (gB 0) 0 1) () [] ([],()) zM 0 0 0 false () [] []=some (2,3,1,(),(),J8o n,J8r n,stR [R1] [[],[R1],[R1]],(),(Ji5 n p fI [[],[R1],[R1]] 50 3),r,e,(),ca,([cq],()),(2,9,[R1],false,()),9,0,0,false,(),[],J8n p n,BL n p fI [[],[R1],[R1]],ac)/\Jcx cq:=by have A:=Kcf (now0:=[R1]) (T:=50) (g:=gB 0) (m:=1) (e:=[]) (a:=1) (l:=0) (cl:=[]) (y:=0) (z:=0) (us:=[]) (s:=(zM,0,false)) (t:=(zM,0,false)) (N:=0) (i:=0) (c:=2) hp h1 hn Jxy Joq (by simp) (row_G Kcg) (by omega) (by omega) (gB_ok 0) (λj hj=>by rw[K59 0 (by omega)];exact .inr rfl) rfl (λj hj=>by show(0:Int)<2;omega) (by omega) (by omega) (by simp) rfl [] (by simp) (by omega) (by omega) (by omega);have hco:=(K0y [([97],9,0)] (by simp) (λx hx=>by rw[List.mem_singleton.1 hx];exact⟨⟨by decide,by decide⟩,by decide,by decide⟩) ((Jgz _ (by simp[Jme])).trans rfl) 2 ((zM,0,false):K7o) (by simp) (y:=0) (z:=0) (us:=[]) led0 (by decide)).1;have Bq:=Kcf (now0:=[R1]) (T:=50) (g:=gB (0+1)) (m:=1) (e:=J8u ib 1 (Jdb 1 Qm 2 [R1],0+1,()) []) (a:=1) (l:=0+0) (cl:=[Jdb 1 Qm 2 [R1]]) (y:=0) (z:=0) (us:=[]) (s:=(zM,0,false)) (t:=((2,9,[R1],false,()),9,false)) (N:=0+1) (i:=0+1) (c:=2) hp h1 hn Jxy (Kci Joq Jxy) (by simp) (row_G Kcg) (by omega) (by omega) (gB_ok _) (λj hj=>by rw[K59 (0+1) (by omega)];exact .inr rfl) rfl (λj hj=>by obtain rfl:j=0:=(by omega);show(2:Int)<3;omega) (by omega) (by omega) (by simp) ⟨_,by rw[K3a];exact hco,rfl⟩ [Jdb 1 Qm 2 [R1]] (by simp) (by omega) (by omega) (by omega);refine⟨(1,2,0,()),Jak (gB 2) 0 1,J8u ib 1 (Jdb 1 Qm 3 [R1],2,()) (J8u ib 1 (Jdb 1 Qm 2 [R1],1,()) []),Jdb 1 Qm 3 [R1],[Jdb 1 Qm 2 [R1],Jdb 1 Qm 3 [R1]], ?_,by rw[K3a];show(1:Nat)<=1000;omega⟩;unfold J11 J11_1;rw[J9l (s':=_) A,J9l (s':=_) Bq,J96 rfl];rfl
theorem K8h(hn:n<=4) f now q s B (T:Int) (j:Nat) r e ca (cl:List Jcn) (hcl:cl.length<=100) (hc:∀c∈cl,Jcx c) mh mb (mr:List Pr) (hmr:mr.length<=1000) mx x y z hb us ac:J1o now q () () (J8o n) (J8r n) (J8n p n) s B () (Ji5 n p f R T j) r e () ca (cl,()) (mh,mb,mr,mx,()) x y z hb () us ac=some ((),(T,false,()),hdK n p f R j,J8n p n,(),(cl,()),mh,mb,(mx,()),mr):=by unfold J1o J3n J2a;rw[show(Ji5 n p f R T j).1=hdK n p f R j from rfl,show(Ji5 n p f R T j).2.1=J8n p n from rfl,Jmw _ (by rw[Jks];omega),Jkn p hn];unfold J5a J4z J4a Jj;rw[show J58 () ca=some ()from rfl,J8a,Jr7 cl (by omega) hc,J8a,J8a,J8d (by dsimp only;omega),J8a,J8a,J8a,J8a];rfl
theorem awakeN(hp:Jkj p)(h1:1<=n)(hn:n<=4)(hch:Jr [1]=some ((),J8o n,J8r n,Ja5 n,J8n p n)):J5w=some true:=by obtain⟨r,e,ca,cq,ac,hS,hcq⟩:=Kfo (n:=n) (p:=p) hp h1 hn;have hw:=Jvx (n:=n) (p:=p) (f:=fI) hp h1 hn rfl 50 (by omega);rw[show([hL n p fI [[]] 0],J8n p n,(50:Int),false,())=Ji5 n p fI [[]] 50 1 from rfl,show Jak gM 0 1=Jak (gB 0) 0 1 from rfl]at hw;have hT:=do_tx 1 1 (J8o n) (J8r n) (J8n p n) (stR [] [[]]) (BL n p fI [[]]) (Ji5 n p fI [[]] 50 1) (1,0,0,()) (Jak (gB 0) 0 1) [] ([],()) zM 0 0 0 false [] [] (3,[97],[],9,0,()) 0 (stR [R1] [[]]) (J8n p n) (Ke5 _ _ _ _);have hC:=K8h (n:=n) (p:=p) hn fI 3 1 (stR [R1] [[],[R1],[R1]]) (BL n p fI [[],[R1],[R1]]) 50 3 (R:=[[],[R1],[R1]]) r e ca [cq] (by simp) (by simpa using hcq) 2 9 [R1] (by simp) false 9 0 0 false [] ac;unfold J5w;rw[hch,J8a];rw[hw,J8a];rw[show Jv _ _ _ _ _ _ _ _ _ _ _ _ _ _ _ _ _ _ _ _ _ _ _ _ _=_ from hT,J8a];dsimp only;rw[hS,J8a];dsimp only;rw[hC];rfl
end
theorem K0s:J5w=some true:=by obtain⟨h1,hn⟩:=Kw [1];exact awakeN (Kev [1]) h1 hn (Jyp [1] (by simp))
theorem K69(hp:Jkj p)(hq:∀i,p i<=9)(hn:n<=4):K2h (J8n p n):=by
 have h:=Jmc p n hn;refine⟨by rw[Jbl];omega,λv hv=> ?_⟩;obtain⟨i,hi,rfl⟩:=List.mem_map.1 hv;have h3:=h.2 _ hv;have:i<4:=by have:=List.mem_range.1 hi;omega
 refine⟨?_,h3.2,by have:=hp i;show 0<=p i;omega,by have:=hq i;show p i<=1048576;omega⟩;show(nm i).length<=100;rcases i with _|_|_|_|i<;>first|decide|omega
theorem rw0(hn:n<=4)(hS:K2h S)(hb:FstB n S b)(T:Int):RwT n 0 (1,[],(),(J8o n,J8r n,Ja5 n,[],S,[b],[[]],()),[],0,[],0,(),([b.1],b.2.2.2.1,T,false,()),(0,0,[(Qm,1,0,true,())],()),[],[],0,0,0,(false,()),[]):=by obtain⟨b1,b2,b3,b4⟩:=hb;have h1:=Ke4 S [] 1;have hB:Kbc b:=⟨by rw[b1];exact Jpz _ _ _,by rw[b2];exact Kfr _ (by rw[h1];simp) (by rw[h1];simp) hn,by rw[b3];exact hS,by rw[b4];exact hS⟩;have hr:Jfh []:=⟨by simp,by simp⟩;exact⟨by simp,⟨⟨rfl,rfl,rfl,hr,hS,by simp,rfl,by simpa using hB,by simpa using hr⟩,by simp⟩,⟨by simp,by simp⟩,hr,⟨by simp,by simp,by rw[b4];exact hS⟩,⟨by simp,λe he=>by rw[List.mem_singleton.1 he];exact⟨by decide,by decide⟩⟩,led0⟩
def Kcw(n:Nat)(B:List Block):Prop:=(1<=B.length/\B.length<=16)/\∀i,i<B.length->Kbc (B.getD i Jw0)/\Jap (B.getD i Jw0).1=true/\(B.getD i Jw0).1.1=(i:Int)+1/\(B.getD i Jw0).2.2.2.1.length=n
def LiT(B:List Block)(c:Cli):Prop:=(1<=c.1.length/\c.1.length<=6)/\(∀x∈c.1,∃i,i<B.length/\x=(B.getD i Jw0).1)/\K2h c.2.1/\c.2.2.2.1=false
theorem Kz(h:K2h l):Jw5 l:=λv hv=>(h.2 v hv).2.1
theorem Kd8(h:Kbc b):K7s b:=⟨h.1,λx hx=>(h.2.1.2 x hx).2,by have:=h.2.1.1;omega,Kz h.2.2.1,Kz h.2.2.2,by have:=h.2.2.1.1;omega,by have:=h.2.2.2.1;omega⟩
section
variable {n : Nat} {B : List Block} (hB : Kcw n B) {c : Cli} (hc : LiT B c)
include hB hc
theorem li_ok:K7u c:=by
 obtain⟨⟨h1,h2⟩,h3,h4,_⟩:=hc;have hm:lastH c∈c.1:=by unfold lastH;rw[List.getD_eq_getElem?_getD,List.getElem?_eq_getElem (by omega)];exact List.getElem_mem ..
 obtain⟨i,hi,e⟩:=h3 _ hm;have hr:=(Jb5 _).1 (hB.2 i hi).2.1;rw[<-e]at hr;exact⟨h1,by omega,⟨by have:=h4.1;omega,λv hv=>by have:=(h4.2 v hv).2.2;omega⟩,by omega,by omega⟩
theorem Kee(hi:i<B.length)(hn:0<=now/\now<=1073741824):Ok (J30 (B.getD i Jw0) now c) (λu=>LiT B u.2):=by
 have hb:=(hB.2 i hi).1;refine Ok.eq (Kcn _ now c (Kd8 hb) (li_ok hB hc) ⟨by omega,by omega⟩) ?_;obtain⟨⟨h1,h2⟩,h3,h4,h5⟩:=hc;have hc:LiT B c:=⟨⟨h1,h2⟩,h3,h4,h5⟩;unfold updS;repeat' split
 all_goals first|exact hc|skip
 have hm:=Jcq h3 ⟨i,hi,rfl⟩;have hl:(c.1++[(B.getD i Jw0).1]).length=c.1.length+1:=by simp
 refine⟨?_,λx hx=>hm x ?_,hb.2.2.2,h5⟩;·dsimp only[K3m];split<;>(try rw[List.length_drop])<;>omega
 dsimp only[K3m]at hx;split at hx;·exact List.mem_of_mem_drop hx
 exact hx
theorem Kk(hn:0<=now/\now<=1073741824) t q D K V s r e ca cq mi x y z hb us ac:Ok (J2b t now q () () D K V s B () c r e () ca cq mi x y z hb () us ac) (λo=>LiT B o.2):=by unfold J2b J2p J31 J8 J40;simp only[wp];refine⟨λ_=>⟨λ_=>hc,by simp⟩,λh1=>⟨λ_=>⟨λ_=>hc,by simp⟩,λh2=> ?_⟩⟩;have hB1:=hB.1.2;obtain⟨i,rfl⟩:∃i:Nat,t=i+1:=⟨(t - 1).toNat,by omega⟩;rw[oW,show((i:Int)+1 - 1).toNat=i from by omega];have hb:=(hB.2 i (by omega)).1;have hl:=Kee hB hc (i:=i) (by omega) hn;have z:(((0:Int),(0:Int),(List.replicate 32 (0:UInt8)),(List.replicate 32 (0:UInt8)),(List.replicate 32 (0:UInt8)),(List.replicate 32 (0:UInt8)),()),([]:List J9o),([]:List Val),([]:List Val),())=Jw0:=rfl;rw[z];have q1:=hb.2.1.1;have q2:=hb.2.2.1.1;have q3:=hb.2.2.2.1;exact⟨by omega,by omega,by omega,by omega,by simp,λ_=>hl⟩
end
section
variable {κ α : Type} {f : κ → κ → Bool} {k : κ} {v : α}
theorem Kcd:∀e:List (κ×α),(J8u f k v e).length<=e.length+1
 |[]=>by simp[J8u]
 |p::r=>by have:=Kcd r;unfold J8u;cases f k p.1<;>simp<;>omega
theorem Jmb:∀{e:List (κ×α)},(J8l f k e).isSome=true->(J8u f k v e).length=e.length
 |[],h=>by simp[J8l]at h
 |p::r,h=>by
  unfold J8u;unfold J8l at h;cases q:f k p.1<;>simp_all
  exact Jmb h
theorem Jyr:∀e:List (κ×α),(J9s f k e).length<=e.length
 |[]=>by simp[J9s]
 |p::r=>by have:=Jyr r;unfold J9s;cases f k p.1<;>simp<;>omega
theorem Kb:∀{e:List (κ×α)},x∈J8u f k v e->x∈e\/x.2=v
 |[],h=>by simp[J8u]at h;simp[h]
 |p::r,h=>by unfold J8u at h;have:=Kb (x:=x) (e:=r);cases q:f k p.1<;>simp_all<;>grind
theorem Jys:∀{e:List (κ×α)},x∈J9s f k e->x∈e
 |[],h=>by simp[J9s]at h
 |p::r,h=>by unfold J9s at h;have:=Jys (x:=x) (e:=r);cases q:f k p.1<;>simp_all<;>grind
theorem Jzd:∀{e:List (κ×α)},J8l f k e=some v->∃p∈e,p.2=v
 |[],h=>by simp[J8l]at h
 |p::r,h=>by unfold J8l at h;have:=Jzd (e:=r);cases q:f k p.1<;>simp_all
end
def CaT(ca:List (Int×Ce)):Prop:=∀x∈ca,Jcx x.2.1
theorem Kdb{ca:List (Int×Ce)}(h:CaT ca)(k:Int):Jcx ((J8l (Ty.beq (.int .i64)) k ca).getD (((0:Int),(0:Int),([]:List Pr),()),(0:Int),())).1:=by cases e:J8l (Ty.beq (.int .i64)) k ca with|none=>show(0:Nat)<=1000;omega|some v=>obtain⟨p,hp,q⟩:=Jzd e;rw[<-show p.2=v from q];exact h p hp
def CqT(cq:List Jcn×Unit):Prop:=cq.1.length<=8/\∀c∈cq.1,Jcx c
theorem Jtv(h:Jcx c):J2r c=some c:=by unfold J2r Jj;unfold Jcx at h;rw[oN];rfl
theorem Kes(h:Jcx c){ca:List (Int×Ce)}(hca:CaT ca)(b:Int):Ok (J4b c b () ca) (λo=>CaT o.2):=by
 have hp:CaT (J8u (Ty.beq (.int .i64)) c.1 (c,b,()) ca):=λx hx=>by
  rcases Kb hx with hx|hx;·exact hca x hx
  rw[hx];exact h
 unfold J4b;simp only[wp,Jtv h];repeat' first|exact hca|exact hp|intro _|with_reducible apply And.intro
theorem K9r(h:Int)(hc:c.1.length<=6):Ok (Jy h c) (λo=>o.2.2=c):=by
 simp only[Jy,wp];refine(Jee (Q:=λo=>match o with| .inl o=>o.2.1=c| .inr o=>o.1=c) (λi:Int=>0<=i/\i<=c.1.length) (λi=>c.1.length - i) (by simp) λi hi=> ?_).imp λo ho=> ?_;·have e1:=oX (i+1);simp only[Jy_1_step,wp];repeat' first|trivial|omega|intro _|with_reducible apply And.intro
 cases o<;>exact Jkh.2 ho
def CoT(c:Cli)(o:Int×Cli×List (Int×Ent)×List (Int×Ce)×List Jcn×Unit):Prop:=o.2.1=c/\o.2.2.1.length<=6/\CaT o.2.2.2.1/\CqT o.2.2.2.2
section
variable {n : Nat} {B : List Block} (hB : Kcw n B) {c : Cli} (hc : LiT B c) {now : Int} (hn : 0 ≤ now ∧ now ≤ 1073741824) {e : List (Int × Ent)} (he : e.length ≤ 6) {ca : List (Int × Ce)} (hca : CaT ca) {cq : List Jcn × Unit} (hcq : CqT cq) {X : Rsp} (hX : Jlv X.2.2.2.1 ∧ X.2.2.1.length ≤ 1000) (r : Int × Int × Int × Unit) (mi : Mir) (x y z : Int) (hb : Bool) (us : Um)
include hB hc hn he hca hcq hX
theorem K8j:Ok (J23 X now () c r e () ca cq mi x y z hb () us) (CoT c):=by obtain⟨q1,q2⟩:=hcq;have hcq:CqT cq:=⟨q1,q2⟩;have hk:Jcx (X.1,X.2.1,X.2.2.1,()):=hX.2;have s:=λ{c':Cli} {k:Int} (h:c'=c)=>(⟨h,he,hca,hcq⟩:CoT c (k,c',e,ca,cq));unfold J23 J1z J3u J59 J2o J21 J26 J3x;have hw:=oX (8 - (cq.1.length:Int));simp only[wp,Jie X (by have:=hX.2;omega),Jkr now c (li_ok hB hc) ⟨by omega,by omega⟩,Jmq _ _ X hX.1 (by have:=hX.2;omega)];refine⟨λ_=>s rfl,λ_=>⟨λ_=>s rfl,λ_=>⟨λ_=>s rfl,λ_=>⟨λ_=>s rfl,λ_=>⟨λ_=>s rfl,λ_=>(K9r _ hc.1.2).imp λo ho=>⟨λ_=>s ho,λ_=>⟨λ_=>s ho,λh8=>⟨λ_=>s ho,λ_=>(Kes hk hca _).imp λu hu=>⟨λ_=>⟨ho,he,hu,hcq⟩,λ_=>Ok.eq (pushG _ cq.1 (by omega) hk q2) ?_⟩⟩⟩⟩⟩⟩⟩⟩⟩;have hq:CqT (cq.1++[(X.1,X.2.1,X.2.2.1,())],()):=⟨by simp;omega,Jcq q2 hk⟩;refine⟨λ_=>⟨ho,he,hu,hq⟩,λh9=>⟨λ_=>⟨ho,he,hu,hq⟩,λ_=>⟨ho, ?_,hu,hq⟩⟩⟩;rw[Jmb h9];exact he
theorem K7(ha:ac.length<=100000)(q:Int) D K V st:Ok (J2g X now q () () D K V st B () c r e () ca cq mi x y z hb () us ac) (λo=>CoT c (o.1,o.2.1,o.2.2.1,o.2.2.2.1,o.2.2.2.2.1)/\o.2.2.2.2.2.length<=ac.length+1):=by unfold J2g Jj;simp only[wp,List.length_cons,List.length_nil,List.length_append];exact(K8j hB hc hn he hca hcq hX r mi x y z hb us).imp λo ho=>⟨λ_=>⟨by omega,by omega,ho,by omega⟩,λ_=>⟨ho,by omega⟩⟩
end
theorem of_ok(h:Jel l) id t q:Ok (J76 id q t l) (λx=>Jlv x.2.2.2.1/\x.2.2.1.length<=1000):=by
 have hk:=Jxz h;have hl:=h.2.1;have s:∀a b,Jlv (Jb6 l a (min b l.length)):=λa b=>Jmh l hk _ _ (by omega);unfold J76;simp only[wp,Jku l h.1 (by omega),Jsf l hk h.1,Jz5 l hk h.1,Jft l h.1 (by omega),Jtk l hk h.1];have hr:∀a b,(Jch l a b).length<=1000:=λa b=>by have:=List.length_filter_le (inR a b) l;unfold Jch;omega
 refine⟨λ_=>⟨s _ _,hr _ _⟩,λ_=>⟨λc=> ?_,λc=> ?_⟩⟩
 ·split at c;·rename_i c1;have:=(Jeo c1).1;simp only[c1];exact⟨Jmh l hk _ _ (by omega),by simp⟩
  simp at c
 split at c;·simp at c
 rename_i c1;simp only[c1];exact⟨s _ _,by simp⟩
section
variable {n : Nat} {B : List Block} (hB : Kcw n B) {c : Cli} (hc : LiT B c) {now : Int} (hn : 0 ≤ now ∧ now ≤ 1073741824) {e : List (Int × Ent)} (he : e.length ≤ 6) {ca : List (Int × Ce)} (hca : CaT ca) {cq : List Jcn × Unit} (hcq : CqT cq) {s : Stt} (hs : Jmo s) (r : Int × Int × Int × Unit) (mi : Mir) (x y z : Int) (hb : Bool) (us : Um) (q : Int) (D : List (List UInt8)) (K : List (List (List UInt8))) (V : List Val)
include hB hc hn he hca hcq hs
theorem K5o(ha:ac.length<=100000) i j:Ok (J22 i j now q () () D K V s B () c r e () ca cq mi x y z hb () us ac) (λo=>CoT c (o.1,o.2.1,o.2.2.1,o.2.2.2.1,o.2.2.2.2.1)/\o.2.2.2.2.2.length<=ac.length+1):=by
 have h0:CoT c (3,c,e,ca,cq):=⟨rfl,he,hca,hcq⟩;unfold J22 J5i J21 J19 J2f J2t;simp only[wp,K71 s hs];refine⟨λ_=>⟨h0,by omega⟩,λ_=>⟨λ_=>⟨h0,by omega⟩,λk=> ?_⟩⟩;have hl:Jel (atS s j).1:=by
  unfold atS at k⊢;split;·rename_i c;rw[if_pos c]at k;cases k
  exact Jub hs.2.2.2.2 _
 exact(of_ok hl _ _ _).imp λX hX=>K7 hB hc hn he hca hcq hX r mi x y z hb us ha q D K V s
def SvT(B:List Block)(a:Nat)(o:Cli×List (Int×Ent)×List (Int×Ce)×(List Jcn×Unit)×List Jcn):Prop:=LiT B o.1/\o.2.1.length<=6/\CaT o.2.2.1/\CqT o.2.2.2.1/\o.2.2.2.2.length<=a
theorem K5u(ha:ac.length<=a)(ha2:a<=90000)(h1:0<=q/\q<=100):Ok (Jt now q () () D K V s B () c r e () ca cq mi x y z hb () us ac) (λ(_,now',q',_,_,D',K',V',s',B',_,c',r',e',_,ca',cq',mi',x',y',z',_,_,us',ac')=>SvT B (a+100) (c',e',ca',cq',ac')/\now'=now/\q'=q/\D'=D/\K'=K/\V'=V/\s'=s/\B'=B/\r'=r/\mi'=mi/\x'=x/\y'=y/\z'=z/\us'=us):=by
 have lp:∀{c:Cli} (hc:LiT B c) (h er:Int),Ok (Jt_1 h 1 now q () () D K V s B () c r e () ca cq mi x y z hb () us ac 0 0 0 0 () () er 0 0 0 () ()) (λ(now',q',_,_,D',K',V',s',B',_,c',r',e',_,ca',cq',mi',x',y',z',_,_,us',ac',_)=>SvT B (a+100) (c',e',ca',cq',ac')/\now'=now/\q'=q/\D'=D/\K'=K/\V'=V/\s'=s/\B'=B/\r'=r/\mi'=mi/\x'=x/\y'=y/\z'=z/\us'=us):=λ{c} hc h er=>by refine Jee (λt:Int×Cli×List (Int×Ent)×List (Int×Ce)×(List Jcn×Unit)×List Jcn×Int×Int=>1<=t.1/\t.1<=q+1/\LiT B t.2.1/\t.2.2.1.length<=6/\CaT t.2.2.2.1/\CqT t.2.2.2.2.1/\(t.2.2.2.2.2.1.length:Int)<=a+t.1 - 1) (λt=>q+1 - t.1) ⟨by simp,by dsimp only;omega,hc,he,hca,hcq,by dsimp only;omega⟩ λt ht=> ?_;obtain⟨i1,i2,i3,i4,i5,i6,i7⟩:=ht;have e1:=oX (t.1+1);unfold Jt_1_step J19 J2f J2t J1z;simp only[wp,e1];refine⟨λ_=>⟨λ_=>⟨⟨by omega,by omega,i3,i4,i5,i6,by omega⟩,by omega,by omega⟩,λ_=>(K5o hB i3 hn i4 i5 i6 hs r mi x y z hb us q D K V (ac:=t.2.2.2.2.2.1) (by omega) _ _).imp λo ho=> ?_⟩,λ_=>⟨⟨i3,i4,i5,i6,by dsimp only;omega⟩,by trivial,by trivial,by trivial,by trivial,by trivial,by trivial,by trivial,by trivial,by trivial,by trivial,by trivial,by trivial,by trivial⟩⟩;obtain⟨⟨o1,o2,o3,o4⟩,o5⟩:=ho;rw[o1];have g:1<=t.1+1/\t.1+1<=q+1/\LiT B t.2.1/\o.2.2.1.length<=6/\CaT o.2.2.2.1/\CqT o.2.2.2.2.1/\(o.2.2.2.2.2.length:Int)<=a+(t.1+1) - 1:=⟨by omega,by omega,i3,o2,o3,o4,by omega⟩;exact⟨λ_=>⟨g,by omega,by omega⟩,λ_=>⟨λ_=>⟨g,by omega,by omega⟩,λ_=>⟨g,by omega,by omega⟩⟩⟩
 have hl:=hc.1;have hs2:=hc.2.2.1.1;have e1:=oX ((c.1.length:Int) - 1);unfold Jt J4e J48 J2a J3v J0b J8;simp only[wp];exact⟨by omega,by omega,by omega,λ_=>(Kk hB hc hn _ q D K V s r e ca cq mi x y z hb us ac).imp λu hu=>lp hu _ _,λ_=>lp hc _ _⟩
end
theorem Jlm(n:Int):Ok (J3e n) (λr=>r=true->0<=n/\n<=1073741824):=by simp only[J3e,wp];exact⟨λ_ h=>by omega,λ_=>by simp⟩
theorem Jsg(h:v.length<=1000):Ok (J4l v) (λr=>0<=r.1/\r.1<=1073741824/\0<=r.2.1/\r.2.1<=1073741824):=by simp only[J4l,J6i,wp,number_eq,Kdl,List.length_nil];exact⟨by omega,λ_=>by simp,λ_=>(Jlm _).imp λa ha=>⟨λ_=>by simp,λa1=>(Jlm _).imp λb hb=>⟨λ_=>by simp,λb1=>by have:=ha a1;have:=hb b1;omega⟩⟩⟩
theorem K9g k:Ok (J5x k) (λ_=>True):=by simp only[J5x,J69,J5f,wp];repeat' first|omega|trivial|intro _|with_reducible apply And.intro
theorem Kt(hl:l.length<=1000)(h:∀p∈l,p.2.1.length<=1000):Ok (J0g l) (λ_=>True):=by
 simp only[J0g,wp];refine(Jee (Q:=λ_=>True) (λi:Int×Int=>0<=i.2/\i.2<=l.length) (λi=>l.length - i.2) (by simp) λi hi=> ?_).imp λo _=> ?_;·have e1:=oX (i.2+1);simp only[J0g_1_step,wp];exact⟨λc=>⟨by omega,(K9g _).imp λb _=>⟨λ_=>by omega,λ_=>(Jsg (h _ (Jb0 (by omega) c _))).imp λu _=>⟨λ_=>trivial,λ_=>by omega⟩⟩⟩,λ_=>trivial⟩
 cases o with|inl o=>exact Jkh.2 trivial|inr o=>simp only[wp];exact(Jlm _).imp λa _=>⟨λ_=>trivial,λ_=>trivial⟩
abbrev K7y(m:Mir):Prop:=m.2.2.1.length<=1000
theorem Kfz(hk:Jcx k)(hm:K7y m):Ok (J3d k m) (λo=>K7y o.2):=by
 have hk2:k.2.2.1.length<=1000:=hk;have cf:Ok (J1d k.2.2.1) (λ_=>True):=by
  simp only[J1d,Jn,wp];refine(Jee (Q:=λ_=>True) (λi:Int=>0<=i/\i<=k.2.2.1.length) (λi=>k.2.2.1.length - i) (by simp) λi hi=> ?_).imp λo _=> ?_;·have e1:=oX (i+1);simp only[Jn_1_step,J5k,wp];exact⟨λc=>⟨by omega,(K9g _).imp λb _=>⟨λ_=>trivial,λ_=>by omega⟩⟩,λ_=>trivial⟩
  cases o<;>exact Jkh.2 trivial
 unfold J3d Jj;simp only[wp,Jgz k.2.2.1 (by omega)];exact⟨λ_=>hm,λq=>cf.imp λ_ _=>⟨λ_=>hm,λ_=>⟨λ_=>hm,λ_=>(Kt hk2 (λp hp=>by have:=(Kc1 (((Jck _).1 q).2.1 p hp)).2.2;omega)).imp λo _=>⟨λ_=>hm,λ_=>⟨by omega,hk⟩⟩⟩⟩⟩
theorem K3b(hk:Jcx k)(hm:K7y m){x y z:Int}{us:Um}(h:Jcc x y z us)(c:Cli)(r:Int×Int×Int×Unit)(e:List (Int×Ent))(ca:List (Int×Ce))(cq:List Jcn×Unit)(b:Bool):Ok (J1w k () c r e () ca cq m x y z b () us) (λo=>K7y o.1/\Jcc o.2.1 y z us):=by have p0:=h.p0;have t0:=h.top;have s0:=h.s0;unfold J1w J49 J4o J4p;simp only[wp,oX (1073741824 - y)];exact⟨λ_=>⟨hm,h⟩,λ_=>(Kfz hk hm).imp λo ho=>⟨λ_=>⟨λ_=>⟨λ_=>⟨ho,h⟩,λ_=>⟨ho,h⟩⟩,λ_=>⟨λ_=>⟨λ_=>⟨ho,h⟩,λ_=>⟨ho,h⟩⟩,λ_=>⟨λ_=>⟨ho,by omega,p0,by omega,h.a0,h.a1,h.sum,h.non⟩,λ_=>⟨ho,by omega,p0,by omega,h.a0,h.a1,h.sum,h.non⟩⟩⟩⟩,λ_=>⟨λ_=>⟨ho,h⟩,λ_=>⟨ho,h⟩⟩⟩⟩
theorem Jyz{e:List (Int×Ent)}{z:Ent}(hz:z.2.1=0/\z.2.2.1=0)(h:¬((J8l (Ty.beq (.int .i64)) k e).getD z).2.1=0\/0<((J8l (Ty.beq (.int .i64)) k e).getD z).2.2.1):(J8l (Ty.beq (.int .i64)) k e).isSome=true:=by cases q:J8l (Ty.beq (.int .i64)) k e with|none=>rw[q]at h;simp at h;omega|some v=>rfl
theorem Ka4(he:e.length<=6)(r:Int×Int×Int×Unit):Ok (J7 r e) (λo=>o.1.1=r.1/\o.2.1.length<=6):=by
 have hs:=Jvh J56 e (by omega) rfl;have hl:(Jy6 (e.map (·.1))).length=e.length:=by rw[(Jfe _).length_eq,List.length_map]
 generalize Jy6 (e.map (·.1))=l at hs hl;unfold J7 J36 J7_1 J7_2;simp only[wp,hs];refine(Jee (Q:=λo=>o.1.1=r.1/\o.2.1.length<=6/\o.2.2.2=l) (λs:Int×List (Int×Ent)×List Int=>0<=s.1/\s.1<=l.length/\s.2.1.length<=6/\s.2.2.length<=s.1) (λs=>l.length - s.1) ⟨by simp,by simp,he,by simp⟩ λs hi=> ?_).imp λo ho=> ?_;·obtain⟨i1,i2,i3,i4⟩:=hi;have e1:=oX (s.1+1);simp only[J7_1_step,wp,List.length_append,List.length_cons,List.length_nil];refine⟨λ_=>⟨by omega,λq=>⟨λ_=>⟨by omega,⟨by omega,by omega, ?_,by omega⟩,by omega⟩,λ_=>by omega⟩,λ_=>by omega⟩,λ_=>⟨by trivial,by omega,by trivial⟩⟩;rw[Jmb (Jyz ⟨rfl,rfl⟩ (.inr q))];exact i3
 obtain⟨o1,o2,o3⟩:=ho;simp only[o3];refine Jee (λs:Int×List (Int×Ent)×List Int=>0<=s.1/\s.1<=l.length/\s.2.1.length<=6/\s.2.2.length<=s.1) (λs=>l.length - s.1) ⟨by simp,by simp,o2,by simp⟩ λs hi=> ?_;obtain⟨i1,i2,i3,i4⟩:=hi;have e1:=oX (s.1+1);simp only[J7_2_step,wp,e1,List.length_append,List.length_cons,List.length_nil];refine⟨λ_=>⟨by omega,λ_=>by omega,λq=>⟨λ_=>by omega,λ_=>⟨λ_=>by omega,λ_=>⟨λ_=>⟨by omega,⟨by omega,by omega, ?_,by omega⟩,by omega⟩,λ_=>⟨by omega,⟨by omega,by omega, ?_,by omega⟩,by omega⟩⟩⟩⟩⟩,λ_=>⟨o1,i3⟩⟩;all_goals (rw[Jmb (Jyz ⟨rfl,rfl⟩ (.inl q))];exact i3)
theorem K5q(hm:K7y m){us:Um}(h:Jcc x y z us){e:List (Int×Ent)}(he:e.length<=6){cq:List Jcn×Unit}(hq:CqT cq)(c:Cli)(r:Int×Int×Int×Unit)(ca:List (Int×Ce))(b:Bool):Ok (Jk () c r e () ca cq m x y z b () us) (λ(_,c',r',e',_,ca',cq',m',x',y',z',_,_,us',_)=>c'=c/\r'.1=r.1/\e'.length<=6/\ca'=ca/\CqT cq'/\K7y m'/\Jcc x' y z us/\y'=y/\z'=z/\us'=us):=by
 have pop:∀{cq:List Jcn×Unit},CqT cq->Ok (J2d cq) (λo=>CqT o.2.2/\Jcx o.1/\(o.2.1=true->o.2.2.1.length+1=cq.1.length)/\(o.2.1=false->o.2.2.1.length=0)):=λ{cq} ⟨q1,q2⟩=>by unfold J2d;simp only[wp];refine⟨λc=>⟨⟨q1,q2⟩,show(0:Nat)<=1000 by omega,by simp,λ_=>by omega⟩,λc=>⟨by omega,by omega,⟨Nat.le_trans (K3q ..) q1,λx hx=>q2 x (Jwh hx)⟩,q2 _ (Jb0 (by omega) (by omega) _),λ_=> ?_,by simp⟩⟩;simp only[J9v,List.length_drop,List.length_take];omega
 unfold Jk Jk_1;simp only[wp];refine(pop hq).imp λp hp=>(Jee (Q:=λ(_,c',r',e',_,ca',cq',m',x',y',z',_,_,us')=>c'=c/\r'=r/\e'=e/\ca'=ca/\CqT cq'/\K7y m'/\Jcc x' y z us/\y'=y/\z'=z/\us'=us) (λs:Bool×(List Jcn×Unit)×Mir×Int×Bool×Jcn=>CqT s.2.1/\Jcx s.2.2.2.2.2/\K7y s.2.2.1/\Jcc s.2.2.2.1 y z us/\(s.1=false->s.2.1.1.length=0)) (λs=>s.2.1.1.length+(if s.1=true then 1 else 0)) ⟨hp.1,hp.2.1,hm,h,hp.2.2.2⟩ λs hs=> ?_).imp λo ho=> ?_;·obtain⟨i1,i2,i3,i4,i5⟩:=hs;simp only[Jk_1_step,wp];refine⟨λq=>(K3b i2 i3 i4 _ _ _ _ _ _).imp λu hu=>(pop i1).imp λv hv=>⟨⟨hv.1,hv.2.1,hu.1,hu.2,hv.2.2.2⟩,by split<;>omega, ?_⟩,λ_=>⟨by trivial,by trivial,by trivial,by trivial,i1,i3,i4,by trivial,by trivial,by trivial⟩⟩;rw[if_pos q];cases w:v.2.1 with|true=>have:=hv.2.2.1 w;omega|false=>have:=hv.2.2.2 w;simp;omega
 obtain⟨o1,o2,o3,o4,o5,o6,o7,o8,o9,o10⟩:=ho;simp only[o2,o3];exact(Ka4 he r).imp λu hu=>⟨o1,hu.1,hu.2,o4,o5,o6,o7,o8,o9,o10⟩
def SetV(n:Nat)(V:List Val):Prop:=K2h V/\V.length=n
theorem Kfp(l:List Pr) p:(Jpe l p).1.length<=l.length+1:=by
 unfold Jpe;split;·rw[Ke];split<;>omega
 dsimp only;omega
theorem rec_ok a b:Ok (J4r a b) (λ_=>True):=by simp only[J4r,wp];exact(Jlm _).imp λ_ _=>⟨λ_=>trivial,λ_=>(Jlm _).imp λ_ _=>⟨λ_=>trivial,λ_=>Ok.eq (put_eq _ (by simp)) trivial⟩⟩
section
variable {l : List Pr} (h : Jel l) {k : List UInt8} (hk : k.length ≤ 1000) (a b : Int)
include h hk
theorem Kg2:Ok (J54 l k a) (λo=>Jel o.1)/\Ok (J75 l k a) (λo=>Jel o.1)/\Ok (J7h l k a b) (λo=>Jel o.1):=by
 have hl:=h.2.1;have g:∀k,Ok (J4w l k) (λo=>o.1.length<=1000):=λk=>Ok.eq (Jft l h.1 (by omega) k) (by
  split;·rename_i c;have:=(h.2.2 _ (Jb0 (i:=(J8j l k:Int)) (by omega) (by have:=(Jeo c).1;omega) zPr)).2;rw[Int.toNat_natCast]at this;dsimp only;omega
  simp)
 have fin:∀p,Ok (J6t l p) (λu=>(u.2=false->Jel l)/\(u.2=true->Ok (J0g u.1) λw=>(w.2=false->Jel l)/\(w.2=true->Jel u.1))):=λp=>Ok.eq (Jx8 l h.1 (by omega) p) (by have hp:=Ky h p;have:=hp.2.1;exact⟨λ_=>h,λ_=>(Kt (by omega) (λq hq=>by have:=(hp.2.2 q hq).2;omega)).imp λw _=>⟨λ_=>h,λ_=>hp⟩⟩);have rf:∀{x y:Int} {k:List UInt8},Ok (J4r x y) (λr=>Ok (J6t l (k,r,())) λu=>(u.2=false->Jel l)/\(u.2=true->Ok (J0g u.1) λw=>(w.2=false->Jel l)/\(w.2=true->Jel u.1))):=(rec_ok _ _).imp λ_ _=>fin _;refine⟨?_, ?_, ?_⟩;·simp only[J54,J2i,J2i_1,J5e,wp,Jkt k hk];refine⟨λ_=>h,λ_=>⟨λ_=>h,λ_=>(Jlm _).imp λ_ _=>⟨λ_=>h,λ_=>(g _).imp λv hv=>(Jsg hv).imp λw hw=> ?_⟩⟩⟩;repeat' first|exact h|exact rf|intro _|with_reducible apply And.intro
 ·simp only[J75,J3k,J3k_1,J6c,wp,Jkt k hk];refine⟨λ_=>h,λ_=>⟨λ_=>h,λ_=>(Jlm _).imp λ_ _=>⟨λ_=>h,λ_=>(g _).imp λv hv=>(Jsg hv).imp λw hw=> ?_⟩⟩⟩;repeat' first|exact h|exact rf|intro _|with_reducible apply And.intro
 simp only[J7h,J3j,J3j_1,J6h,wp,Jkt k hk];refine⟨λ_=>h,λ_=>⟨λ_=>h,λ_=>(Jlm _).imp λ_ _=>⟨λ_=>h,λ_=>(g _).imp λv hv=>(Jsg hv).imp λw hw=> ?_⟩⟩⟩;repeat' first|exact h|exact rf|omega|intro _|with_reducible apply And.intro
end
theorem hdo_ok(ht:TxOk t)(hs:Jmo s)(hl:s.1.length<30)(hV:SetV n V) D K B:Ok (J4v t () D K V s B) (λ(_,_,D',K',s',B',V')=>D'=D/\K'=K/\(Jmo s'/\s'.1.length<=s.1.length+1)/\B'=B/\SetV n V'):=by
 obtain⟨t1,t2,t3⟩:=ht;have hv:=hV.1.1;have h0:Jmo s/\s.1.length<=s.1.length+1:=⟨hs,by omega⟩;have set:∀p,Jmo ((Jpe s.1 p).1,s.2.1,s.2.2.1,())/\(Jpe s.1 p).1.length<=s.1.length+1:=λp=>⟨Kcj hs p,Kfp _ _⟩;have hm:Jxf (t.2.1,t.2.2.1,())=true:=by unfold Jxf;rw[decide_eq_false (by intro h;have h:t.2.1=[]:=h;rw[h]at t2;simp at t2),decide_eq_true (by dsimp only;omega),decide_eq_true (by dsimp only;omega)];rfl
 have hr:Jc6 [(t.2.1,t.2.2.1,())]=true:=(Jck _).2 ⟨by simp[Jaz],by simpa using hm,by simp⟩;have h2:(Jpe s.1 (t.2.1,t.2.2.1,())).2=true:=by unfold Jpe;rw[hm,decide_eq_true hl];simp
 have fin:∀{l:List Pr} (k:List UInt8),k.length<=10->Jel l->Ok (J2l k) (λa=>Ok (J4w l a) λu=>Ok (J2l k) λv=>True/\True/\(Jmo ((Jpe s.1 (v,u.1,())).1,s.2.1,s.2.2.1,())/\(Jpe s.1 (v,u.1,())).1.length<=s.1.length+1)/\True/\SetV n V):=λk hk hl=>by have:=hl.2.1;exact Ok.eq (Jkt k (by omega)) (Ok.eq (Jft _ hl.1 (by omega) _) (Ok.eq (Jkt k (by omega)) ⟨trivial,trivial,set _,trivial,hV⟩))
 obtain⟨d1,d2,d3⟩:=Kg2 hs.1 (k:=t.2.1) (by omega) t.2.2.2.1 t.2.2.2.2.1;unfold J4v J6b J6a J0s J0s_1;simp only[wp,Jk9 s (by omega),Jgz [(t.2.1,t.2.2.1,())] (by simp),hr,K06 s hs,Kb1 s hs,h2];refine⟨λ_=>⟨by simp,λ_=>(K9g _).imp λ_ _=>⟨λ_=>⟨trivial,trivial,h0,trivial,hV⟩,λ_=>⟨by simp,λ_=>⟨trivial,trivial,set _,trivial,hV⟩⟩⟩⟩,λ_=>⟨λ_=>(K9g _).imp λ_ _=>⟨λ_=>⟨trivial,trivial,h0,trivial,hV⟩,λ_=>⟨trivial,trivial,⟨st_del hs _,by have:=Jyt s.1 t.2.1;omega⟩,trivial,hV⟩⟩,λ_=>⟨λ_=>⟨λ_=>⟨trivial,trivial,h0,trivial,hV⟩,λp1=>⟨λ_=>⟨trivial,trivial,h0,trivial,hV⟩,λp2=> ?_⟩⟩,λ_=>⟨λ_=>d1.imp λu hu=>⟨λ_=>fin t.2.1 (by omega) hu,λ_=>⟨trivial,trivial,h0,trivial,hV⟩⟩,λ_=>⟨λ_=>d2.imp λu hu=>⟨λ_=>fin t.2.1 (by omega) hu,λ_=>⟨trivial,trivial,h0,trivial,hV⟩⟩,λ_=>⟨λ_=>d3.imp λu hu=>⟨λ_=>fin t.2.1 (by omega) hu,λ_=>⟨trivial,trivial,h0,trivial,hV⟩⟩,λ_=>by omega⟩⟩⟩⟩⟩⟩;refine(Jee (Q:=λo=>match o with| .inl o=>o.2.2.1=D/\o.2.2.2.1=K/\o.2.2.2.2.2.1=s/\o.2.2.2.2.2.2.1=B/\SetV n o.2.2.2.2.2.2.2| .inr o=>o.2.1=D/\o.2.2.1=K/\o.2.2.2.1=V/\o.2.2.2.2.1=s/\o.2.2.2.2.2=B) (λi:Int=>0<=i/\i<=V.length) (λi=>V.length - i) (by simp) λi hi=> ?_).imp λo ho=> ?_
 ·have e1:=oX (i+1);simp only[J0s_1_step,J8,wp,e1];refine⟨λc=>⟨by omega,λ_=>⟨by omega,by omega,by trivial,by trivial,by trivial,by trivial,⟨by rw[List.length_set];exact hv,λv hm=> ?_⟩,by rw[List.length_set];exact hV.2⟩,λ_=>by omega⟩,λ_=>by simp⟩;have hg:=hV.1.2 _ (Jb0 hi.1 c (([]:List UInt8),(0:Int),List.replicate 32 (0:UInt8),()));rcases List.mem_or_eq_of_mem_set hm with hm|rfl;·exact hV.1.2 v hm
  exact⟨hg.1,hg.2.1,by dsimp only;omega,by dsimp only;omega⟩
 cases o with
 |inl o=>obtain⟨o1,o2,o3,o4,o5⟩:=ho;exact Jkh.2 ⟨o1,o2,by rw[o3];exact h0,o4,o5⟩
 |inr o=>obtain⟨o1,o2,o3,o4,o5⟩:=ho;exact Jkh.2 ⟨o1,o2,by rw[o4];exact h0,o5,by rw[o3];exact hV⟩
theorem Kbr(B:List α) b z (h:i<B.length):(B++[b]).getD i z=B.getD i z:=by rw[List.getD_eq_getElem?_getD,List.getD_eq_getElem?_getD,List.getElem?_append_left h]
theorem K9q(h:LiT B c) b:LiT (B++[b]) c:=⟨h.1,λx hx=>by obtain⟨i,hi,e⟩:=h.2.1 x hx;exact⟨i,by simp;omega,by rw[Kbr _ _ _ hi];exact e⟩,h.2.2⟩
theorem K1b(hB:Kcw n B)(hV:SetV n V)(hs:Jmo s)(t:Int):Ok (J9 t () (J8o n) (J8r n) V s B) (λ(_,_,D',K',V',s',B')=>D'=J8o n/\K'=J8r n/\V'=V/\(Jmo s'/\s'.1=s.1)/\Kcw n B'/\(B'=B\/∃b,B'=B++[b])):=by
 obtain⟨hB1,hB2⟩:=hB;have hB:Kcw n B:=⟨hB1,hB2⟩;have hr:=hs.1.2.1;have hv:=hV.1.1;have e1:=oX ((B.length:Int)+1);have e2:=oX ((B.length:Int) - 1);obtain⟨b1,b2,b3,b4⟩:=hB2 (B.length - 1) (by omega);have z:(((0:Int),(0:Int),(List.replicate 32 (0:UInt8)),(List.replicate 32 (0:UInt8)),(List.replicate 32 (0:UInt8)),(List.replicate 32 (0:UInt8)),()),([]:List J9o),([]:List Val),([]:List Val),())=Jw0:=rfl;unfold J9 J8 J27;simp only[wp,Jk9 s (by omega),Jka s.1 (Jxz hs.1),Jb7 V (Jl7 hV.1),Jf9,e1,e2,z,show((B.length:Int) - 1).toNat=B.length - 1 from by omega];generalize B.getD (B.length - 1) Jw0=lb at b1 b2 b3 b4⊢;simp only[Jin lb.1 b1.1,Jb7 lb.2.2.2.1 (Jl7 b1.2.2.2),wp];have q1:=b1.2.2.2.1;refine⟨λ_=>⟨trivial,trivial,trivial,⟨hs,trivial⟩,hB,.inl trivial⟩,λhR=>⟨λ_=>⟨by omega,λ_=>⟨trivial,trivial,trivial,⟨hs,trivial⟩,hB,.inl trivial⟩,λ_=>⟨by omega,by omega, ?_⟩⟩,λ_=>by omega⟩⟩;have hR:=(Jb5 _).1 hR;dsimp only at hR;obtain⟨h,hh⟩:∃h:Hdr,h=((B.length:Int)+1,t,Jcl s.1,setH lb.2.2.2.1,setH V,sha (72::Jex lb.1),()):=⟨_,rfl⟩;rw[<-hh];have h1:h.1=(B.length:Int)+1:=by rw[hh]
 have h2:Jaw h:=by rw[hh];exact⟨J9z _,Jal _,Jal _,J9z _⟩
 have h3:Jap h=true:=by rw[Jb5,hh];exact hR
 refine(Jee (Q:=λ(_,D',K',V',s',B',g,_,sg,a,b)=>D'=J8o n/\K'=J8r n/\V'=V/\s'=s/\B'=B/\g=h/\SgT sg/\a=lb.2.2.2.1/\b=V) (λi:Int×List J9o=>0<=i.1/\i.1<=lb.2.2.2.1.length/\(i.2.length:Int)<=i.1/\∀x∈i.2,x.1.length<=100/\Jqw x.2.1) (λi=>lb.2.2.2.1.length - i.1) ⟨by simp,by simp,by simp,by simp⟩ λi hi=> ?_).imp λo ho=> ?_;·obtain⟨i1,i2,i3,i4⟩:=hi;have e3:=oX (i.1+1);simp only[J9_1_step,wp,e3,Jdm,Jhu,List.length_append,List.length_cons,List.length_nil];refine⟨λc=>⟨by omega,by omega,by omega, ?_⟩,λ_=>⟨trivial,trivial,trivial,trivial,trivial,trivial,⟨by omega,i4⟩,trivial,trivial⟩⟩;have g1:(J8o n).getD i.1.toNat (List.replicate 32 (0:UInt8))=Jcf i.1.toNat:=Ja8 _ _ (by omega);have g2:(J8r n).getD i.1.toNat []=Jbu (Jcf i.1.toNat):=Ja8 _ _ (by omega);rw[g1,g2];have hn:=(b1.2.2.2.2 _ (Jb0 i1 c (([]:List UInt8),(0:Int),List.replicate 32 (0:UInt8),()))).1;exact Ok.eq (Jsv h h2 (by omega) (by omega) _ _) ⟨by omega,⟨by omega,by omega,by omega,Jcq i4 ⟨hn,K6p h (by omega) (by omega) _ _⟩⟩,by omega,by omega⟩
 obtain⟨o1,o2,o3,o4,o5,o6,o7,o8,o9⟩:=ho;simp only[o1,o2,o3,o4,o5,o6,o8,o9,Jix s hs,wp,List.length_cons,List.length_nil];have hc:=Jov hs;refine⟨by omega,by omega,trivial,trivial,trivial,⟨hc, ?_⟩,⟨⟨by simp,by simp;omega⟩,λi hi=> ?_⟩,.inr ⟨_,rfl⟩⟩;·unfold Jih;split<;>rfl
 by_cases q:i<B.length;·rw[Kbr _ _ _ q];exact hB2 i q
 have:i=B.length:=(by simp at hi;omega);rw[this,List.getD_eq_getElem?_getD];simp;exact⟨⟨h2,o7,b1.2.2.2,hV.1⟩,h3,h1,hV.2⟩
theorem Kc4:∀(k i a:Nat) (l:List UInt8),0<=(K1q k i a l).1/\(K1q k i a l).2.1.length<=l.length
 |0,_,_,l=>by simp[K1q]
 |k+1,i,a,[]=>by simp[K1q]
 | k+1,i,a,b::l=>by
  have:=Kc4 k (i+1) (a+(b.toNat%128)*128^i) l;unfold K1q;split
  ·split;·simp
   exact⟨Int.natCast_nonneg _,by simp⟩
  simp;omega
theorem K1r(r:Rdr):0<=(Jzu r).1/\(Jzu r).2.1.length<=r.1.length:=by
 unfold Jzu;split;·simp
 exact Kc4 _ _ _ _
section
variable {r : Rdr} {L : Nat} (h : r.1.length ≤ L)
include h
theorem Kcl(hn:0<=n):Ok (J1u n r) (λo=>(o.1.length:Int)<=n/\o.1.length<=L/\o.2.1.length<=L):=by simp only[J1u,wp,J9v,List.length_take,List.length_drop,List.length_nil];repeat' first|omega|intro _|with_reducible apply And.intro
theorem K6i:Ok (J44 r) (λo=>o.1.length<=L/\o.2.1.length<=L):=by simp only[J44,wp,number_eq];have:=K1r r;exact(Kcl (r:=(Jzu r).2) (L:=L) (by omega) this.1).imp λo ho=>ho.2
theorem K50(m:Int)(hm:0<=m):Ok (J4d m r) (λo=>o.1<=m/\o.2.1.length<=L):=by simp only[J4d,wp,number_eq];have:=K1r r;exact⟨λ_=>by omega,λ_=>by omega⟩
theorem Kc6:Ok (J5h r) (λo=>o.2.1.length<=L):=by simp only[J5h,wp];exact(K6i h).imp λu hu=>(K6i hu.2).imp λv hv=>hv.2
theorem path_T:Ok (J1m r) (λo=>(o.1.length<=1000/\∀y∈o.1,y.length=32)/\o.2.2.1.length<=L):=by simp only[J1m,wp];refine(K50 h 32 (by omega)).imp λu hu=>⟨λ_=>⟨⟨by simp,by simp⟩,hu.2⟩,λ_=> ?_⟩;refine Jee (Q:=λo:Rdr×List (List UInt8)=>(o.2.length<=1000/\∀y∈o.2,y.length=32)/\o.1.1.length<=L) (λs:Int×Rdr×List (List UInt8)=>0<=s.1/\s.1+s.2.2.length<=32/\(∀y∈s.2.2,y.length=32)/\s.2.1.1.length<=L) (λs=>s.1) ⟨by omega,by simp;omega,by simp,hu.2⟩ λs hs=> ?_;obtain⟨i1,i2,i3,i4⟩:=hs;have e1:w64 (s.1 - 1)=s.1 - 1:=oW;have out:(s.2.2.length<=1000/\∀y∈s.2.2,y.length=32)/\s.2.1.1.length<=L:=⟨⟨by omega,i3⟩,i4⟩;simp only[J1m_1_step,J25,J63,wp,List.length_append,List.length_cons,List.length_nil];exact⟨λc=>⟨λ_=>(Kcl i4 (show(0:Int)<=32 by omega)).imp λu hu=>⟨by omega,⟨by omega,by omega,Jcq i3 (by simp;omega),hu.2.2⟩,by omega,by omega⟩,λ_=>out⟩,λ_=>out⟩
end
def RdT(x:K0l):Prop:=x.2.2.1.length<=30/\x.2.2.2.1.2.2.1.length<=30/\x.2.2.2.1.2.2.2.1.length<=30/\∀p∈x.2.2.2.1.2.2.2.1,p.length<=1000/\∀y∈p,y.length=32
theorem Kd6(h:r.1.length<=L):Ok (J07 r) (λo=>RdT o.1):=by
 simp only[J07,wp,number_eq,Kdl];have n1:=K1r r;have n2:=K1r (Jzu r).2;refine(K50 (r:=(Jzu (Jzu r).2).2) (L:=L) (by omega) 30 (by omega)).imp λa ha=> ?_;refine(Jee (Q:=λo=>o.2.1.1.length<=L/\o.2.2.2.2.2.2.2.2.2.2.2.2.2.2.length<=30) (λs:Int×Rdr×List Pr=>(s.2.2.length:Int)<=30/\s.1+s.2.2.length<=30/\s.2.1.1.length<=L) (λs=>s.1) ⟨by simp,by simp;omega,ha.2⟩ λs hs=> ?_).imp λo ho=> ?_;·obtain⟨i1,i2,i3⟩:=hs;simp only[J07_1_step,J25,wp,List.length_append,List.length_cons,List.length_nil];refine⟨λc=> ?_,λ_=>⟨i3,by omega⟩⟩;rw[oX (s.1 - 1)];exact⟨λ_=>(Kc6 i3).imp λu hu=>⟨by omega,⟨by omega,by omega,hu⟩,by omega,by omega⟩,λ_=>⟨i3,by omega⟩⟩
 obtain⟨o1,o2⟩:=ho;have n3:=K1r o.2.1;have n4:=K1r (Jzu o.2.1).2;refine(K50 (r:=(Jzu (Jzu o.2.1).2).2) (L:=L) (by omega) 30 (by omega)).imp λb hb=> ?_;have lp:∀t x3 x4 x5 x6 x7 x8 x9 x10 x11 x12 x13 x14,Ok (loop (λ(s:Int×Bool×Rdr×List Pr×List (List (List UInt8)))=>J07_2_step s.1 s.2.1 s.2.2.1 x3 x4 x5 x6 x7 x8 x9 x10 x11 x12 x13 x14 o.2.2.2.2.2.2.2.2.2.2.2.2.2.2 s.2.2.2.1 s.2.2.2.2) (b.1,t,b.2,[],[])) (λo=>o.2.2.2.2.2.2.2.2.2.2.2.2.2.2.1.length<=30/\o.2.2.2.2.2.2.2.2.2.2.2.2.2.2.2.1.length<=30/\o.2.2.2.2.2.2.2.2.2.2.2.2.2.2.2.2.length<=30/\∀p∈o.2.2.2.2.2.2.2.2.2.2.2.2.2.2.2.2,p.length<=1000/\∀y∈p,y.length=32):=λt x3 x4 x5 x6 x7 x8 x9 x10 x11 x12 x13 x14=>by refine Jee (λs:Int×Bool×Rdr×List Pr×List (List (List UInt8))=>(s.2.2.2.1.length:Int)<=30/\s.1+s.2.2.2.1.length<=30/\s.2.2.1.1.length<=L/\s.2.2.2.2.length=s.2.2.2.1.length/\∀p∈s.2.2.2.2,p.length<=1000/\∀y∈p,y.length=32) (λs=>s.1) ⟨by simp,by simp;omega,hb.2,by simp,by simp⟩ λs hs=> ?_;obtain⟨i1,i2,i3,i4,i5⟩:=hs;simp only[J07_2_step,J25,wp,List.length_append,List.length_cons,List.length_nil];have out:=(⟨o2,by omega,by omega,i5⟩:o.2.2.2.2.2.2.2.2.2.2.2.2.2.2.length<=30/\s.2.2.2.1.length<=30/\s.2.2.2.2.length<=30/\∀p∈s.2.2.2.2,p.length<=1000/\∀y∈p,y.length=32);refine⟨λc=> ?_,λ_=>out⟩;rw[oX (s.1 - 1)];exact⟨λ_=>(Kc6 i3).imp λu hu=>⟨by omega,(path_T hu).imp λv hv=>⟨by omega,λ_=>⟨⟨by omega,by omega,hv.2,by omega,Jcq i5 hv.1⟩,by omega,by omega⟩,λ_=>⟨⟨by omega,by omega,hv.2,by omega,Jcq i5 hv.1⟩,by omega,by omega⟩⟩⟩,λ_=>out⟩
 exact⟨λ_=>(lp _ _ _ _ _ _ _ _ _ _ _ _ _).imp λo ho=>⟨λ_=>ho,λ_=>ho⟩,λ_=>(lp _ _ _ _ _ _ _ _ _ _ _ _ _).imp λo ho=>⟨λ_=>ho,λ_=>ho⟩⟩
theorem Kbh(hl:l.length<=30):Ok (J3m l) (λb=>b=true->∀p∈l,p.1.length<=255/\p.2.1.length<=255):=by
 simp only[J3m,wp];refine(Jee (Q:=λo:Bool⊕List Pr=>match o with| .inl b=>b=false| .inr m=>∀p∈l,p.1.length<=255/\p.2.1.length<=255) (λi:Int=>0<=i/\i<=l.length/\∀p∈l.take i.toNat,p.1.length<=255/\p.2.1.length<=255) (λi=>l.length - i) ⟨by simp,by simp,by simp⟩ λi hi=> ?_).imp λo ho=> ?_
 ·obtain⟨i1,i2,i3⟩:=hi;have e1:=oX (i+1);simp only[J3m_1_step,wp,e1];refine⟨λc=>⟨by omega,λ_=>by trivial,λq1=>⟨λ_=>by trivial,λq2=>⟨⟨by omega,by omega, ?_⟩,by omega,by omega⟩⟩⟩,λc=>by rwa[List.take_of_length_le (by omega)]at i3⟩;have e2:l.take (i+1).toNat=l.take i.toNat++[l.getD i.toNat (([]:List UInt8),([]:List UInt8),())]:=by rw[show(i+1).toNat=i.toNat+1 by omega,List.take_add_one,List.getD_eq_getElem?_getD,List.getElem?_eq_getElem (by omega)];rfl
  rw[e2];exact Jcq i3 ⟨by omega,by omega⟩
 cases o with|inl b=>exact Jkh.2 (by simp[show b=false from ho])|inr m=>exact Jkh.2 λ_=>ho
def TlT(x:K0l):Prop:=(∀p∈x.2.2.1,p.1.length<=255/\p.2.1.length<=255)/\(∀p∈x.2.2.2.1.2.2.1,p.1.length<=255/\p.2.1.length<=255)/\x.2.2.2.1.2.2.2.1.length=x.2.2.2.1.2.2.1.length
theorem K79(hx:RdT x):Ok (J0y x) (λb=>b=true->TlT x):=by
 obtain⟨x1,x2,x3,x4⟩:=hx;simp only[J0y,wp];refine(Jee (Q:=λo:Bool⊕K0l=>match o with| .inl b=>b=false| .inr m=>m=x) (λi:Int=>0<=i/\i<=4) (λi=>4 - i) (by simp) λi hi=> ?_).imp λo ho=> ?_;·have e1:=oX (i+1);simp only[J0y_1_step,wp,e1,List.length_cons,List.length_nil];repeat' first|trivial|omega|intro _|with_reducible apply And.intro
 cases o with
 |inl b=>exact Jkh.2 (by simp[show b=false from ho])
 |inr m=>
  obtain rfl:m=x:=ho;simp only[wp];refine(Jee (Q:=λo:Bool⊕K0l=>match o with| .inl b=>b=false| .inr y=>y=m) (λi:Int=>0<=i/\i<=m.2.2.2.1.2.2.2.1.length) (λi=>m.2.2.2.1.2.2.2.1.length - i) (by simp) λi hi=> ?_).imp λo ho=> ?_;·have e1:=oX (i+1);simp only[J0y_2_step,wp,e1];repeat' first|trivial|omega|intro _|with_reducible apply And.intro
  cases o with|inl b=>exact Jkh.2 (by simp[show b=false from ho])|inr y=>obtain rfl:y=m:=ho;simp only[wp];exact(Kbh x1).imp λu hu=>⟨λu1=>(Kbh x2).imp λv hv=>⟨λv1 q=>⟨hu u1,hv v1,by omega⟩,λ_=>by simp⟩,λ_=>by simp⟩
theorem K82(hx:RdT x)(ht:TlT x):Ok (J0x x) (λ_=>True):=by
 obtain⟨x1,x2,x3,x4⟩:=hx;obtain⟨t1,t2,t3⟩:=ht;have pl:∀l:List Int,l.length<=3->Ok (J18 l) (λr=>r.length<=21):=λl hl=>Ok.eq (put_eq l (by omega)) (by unfold Jd9;match l,hl with|[],_=>simp|[a],_=>have:=J9k a;simp;omega|[a,b],_=>have:=J9k a;have:=J9k b;simp;omega|[a,b,c],_=>have:=J9k a;have:=J9k b;have:=J9k c;simp;omega);have tl:∀a b:List UInt8,a.length<=255/\b.length<=255->Ok (J1x [a,b]) (λr=>r.length<=600):=λa b h=>Ok.eq (Jt4 _ (by simp) (by intro x hx;simp at hx;rcases hx with rfl|rfl<;>omega)) (by have:=Jg7 a;have:=Jg7 b;simp;omega);simp only[J0x,J0x_1,J0x_2,wp];refine(K79 ⟨x1,x2,x3,x4⟩).imp λ_ _=>⟨λ_=>trivial,λ_=>(pl _ (by simp)).imp λu hu=>(Jee (Q:=λo:K0l×List UInt8=>o.1=x/\o.2.length<=20000) (λs:Int×List UInt8=>0<=s.1/\s.1<=x.2.2.1.length/\s.2.length<=21+600*s.1) (λs=>x.2.2.1.length - s.1) ⟨by simp,by simp,by simp;omega⟩ λs hs=> ?_).imp λo ho=> ?_⟩;·obtain⟨i1,i2,i3⟩:=hs;have e1:=oX (s.1+1);simp only[J0x_1_step,wp,e1,List.length_append];exact⟨λc=>⟨by omega,(tl _ _ (t1 _ (Jb0 i1 c _))).imp λv hv=>by omega⟩,λ_=>⟨by trivial,by omega⟩⟩
 obtain⟨o1,o2⟩:=ho;simp only[o1];refine(pl _ (by simp)).imp λv hv=>⟨by omega,Jee (Q:=λ_=>True) (λs:Int×List UInt8=>0<=s.1/\s.1<=x.2.2.2.1.2.2.1.length/\s.2.length<=30000+40000*s.1) (λs=>x.2.2.2.1.2.2.1.length - s.1) ⟨by simp,by simp,by simp;omega⟩ λs hs=> ?_⟩;obtain⟨i1,i2,i3⟩:=hs;have e1:=oX (s.1+1);simp only[J0x_2_step,wp,e1,List.length_append];refine⟨λc=>⟨by omega,(tl _ _ (t2 _ (Jb0 i1 c _))).imp λa ha=>⟨by omega,by omega,(pl _ (by simp)).imp λb hb=>⟨by omega, ?_⟩⟩⟩,λ_=>trivial⟩;have hp:=x4 _ (Jb0 i1 (by omega) []);generalize x.2.2.2.1.2.2.2.1.getD _ _=p at hp;exact Ok.eq (Jx4 p (by omega) hp.2) (by have hf:p.flatten.length=32*p.length:=(by have:=hp.2;clear hp;induction p with|nil=>rfl|cons a r ih=>have h1:=this a (by simp);have h2:=ih (λy hy=>this y (by simp[hy]));simp[h1,h2];omega);omega)
theorem K38(h:b.length<=100000000):Ok (J6n b) (λo=>o.2=0->RdT o.1):=by simp only[J6n,J6i,J7o,wp,List.length_nil];refine⟨by omega,(Kd6 (r:=(b,false,())) h).imp λx hx=>⟨λ_=>by simp,λ_=>(K79 hx).imp λu hu=>⟨λ_=>by simp,λu1=>(K82 hx (hu u1)).imp λy _=>⟨λ_=>by simp,λ_ _=>hx⟩⟩⟩⟩
def Rs(p a p' a':Int):Prop:=0<a->0<a'->p*a'<=p'*a
theorem Jsp(p a:Int):Rs p a p a:=λ_ _=>Int.le_refl _
theorem tdiv_le{x y:Int}(hx:0<=x)(hy:0<y):y*Int.tdiv x y<=x:=by rw[Int.tdiv_eq_ediv_of_nonneg hx];exact Int.mul_ediv_self_le (by omega)
theorem Kfg{p a n:Int}(hp:0<p)(hn:0<=n*a):Rs p a (p+n) (a+Int.tdiv (n*a) p):=λ_ _=>by have:=tdiv_le hn hp;rw[Int.mul_add,Int.add_mul];omega
theorem K6g{p a n:Int}(ha:0<a)(hn:0<=n*p):Rs p a (p - Int.tdiv (n*p) a) (a - n):=λ_ _=>by have:=tdiv_le hn ha;rw[Int.mul_sub,Int.sub_mul,Int.mul_comm p n,Int.mul_comm (Int.tdiv _ _) a];omega
def Jtc(k:Nat)(m:Um):Prop:=(m.map (·.1)).Nodup/\m.length<=k
theorem Jnt(x:List UInt8)(v:Int):∀m:Um,(Jac x v m).map (·.1)=m.map (·.1)\/(Jac x v m).map (·.1)=m.map (·.1)++[x]/\x∉m.map (·.1)
 |[]=>.inr ⟨rfl,by simp⟩
 |p::r=>by
  have ih:=Jnt x v r;unfold Jac;by_cases e:p.1=x;·subst e;left;simp
  grind
theorem Jzs{m:Um}(h:Jtc k m):Jtc (k+1) m:=⟨h.1,Nat.le_succ_of_le h.2⟩
theorem K5b{m:Um}(h:Jtc k m)(x:List UInt8)(v:Int):Jtc (k+1) (Jac x v m):=by
 unfold Jtc at*
 rcases Jnt x v m with q|⟨q,r⟩<;>have e:=congrArg List.length q<;>rw[q]<;>simp only[List.length_map,List.length_append,List.length_cons,List.length_nil]at e
 ·exact⟨h.1,by omega⟩
 exact⟨List.nodup_append.2 ⟨h.1,by simp,by grind⟩,by omega⟩
theorem Jr8(x:List UInt8):∀m:Um,(J9s (Ty.beq .str) x m).Sublist m
 |[]=>List.Sublist.refl _
 |p::r=>by unfold J9s;cases Ty.beq .str x p.1 with|true=>exact List.sublist_cons_self _ _|false=>exact(Jr8 x r).cons_cons _
theorem Kej{m:Um}(h:Jtc k m)(x:List UInt8):Jtc k (J9s (Ty.beq .str) x m):=⟨h.1.sublist ((Jr8 x m).map _),Nat.le_trans (Jr8 x m).length_le h.2⟩
theorem K0c(x:List UInt8)(v:Int):∀m:Um,J94 x (Jac x v m)=some v
 |[]=>by simp[Jac,J94]
 |p::r=>by have ih:=K0c x v r;unfold Jac;by_cases e:p.1=x<;>grind [J94]
section
variable {s p a : Int} {m : Um} (h : Jcc s p a m) (hd : Jtc j m)
include h hd
theorem Ka1(x:List UInt8)(n:Int)(b:Bool):Ok (J5d x n s p a b () m) (λo=>Jcc s o.2.2.1 o.2.2.2.1 o.2.2.2.2/\Jtc (j+1) o.2.2.2.2/\Rs (s+p) a (s+o.2.2.1) o.2.2.2.1):=by
 have s0:=h.s0;have p0:=h.p0;have t0:=h.top;have a0:=h.a0;have a1:=h.a1;have e:=oX (s+p);have ea:=oX (1073741824 - a);have ep:=oX (1073741824 - (s+p));have same:Jcc s p a m/\Jtc (j+1) m/\Rs (s+p) a (s+p) a:=⟨h,Jzs hd,Jsp _ _⟩;simp only[J5d,J7k,J0t,wp,e,ea,ep];by_cases c:1<=n/\n<=1073741824
 ·obtain⟨m1,m2⟩:=Jf6 (x:=n) (y:=a) (by omega) c.2 a0 a1;have e1:=oX (n*a);obtain⟨d1,d2⟩:=Jhv (y:=s+p) m1 m2 (by omega);have e2:=oX (Int.tdiv (n*a) (s+p));simp only[e1,e2];have put:∀k,0<=k->a+k<=1073741824->s+p+n<=1073741824->Rs (s+p) a (s+p+n) (a+k)->Jcc s (w64 (p+n)) (w64 (a+k)) (Jac x (w64 ((J94 x m).getD 0+k)) m)/\Jtc (j+1) (Jac x (w64 ((J94 x m).getD 0+k)) m)/\Rs (s+p) a (s+w64 (p+n)) (w64 (a+k)):=λk k0 k1 k2 k3=>by refine⟨K4x h x k0 (by omega) k1 k2,K5b hd _ _, ?_⟩;rw[oX (p+n),oX (a+k),show s+(p+n)=s+p+n by omega];exact k3
  repeat' first|exact same|omega|exact put _ (by omega) (by omega) (by omega) (Kfg (by omega) m1)|exact put _ (by omega) (by omega) (by omega) (λ_=>by omega)|intro _|with_reducible apply And.intro
 repeat' first|exact same|omega|contradiction|intro _|with_reducible apply And.intro
theorem K1u(x:List UInt8)(n:Int)(b:Bool):Ok (J50 x n s p a b () m) (λo=>Jcc s o.2.2.1 o.2.2.2.1 o.2.2.2.2/\Jtc (j+1) o.2.2.2.2/\Rs (s+p) a (s+o.2.2.1) o.2.2.2.1/\(o.2.1=0->o.1<=p)):=by
 have s0:=h.s0;have p0:=h.p0;have t0:=h.top;have a0:=h.a0;have a1:=h.a1;have sm:=h.sum;obtain⟨g1,g2⟩:=Joy x h.non;have e:=oX (s+p);have same:∀k:Int,¬k=0->Jcc s p a m/\Jtc (j+1) m/\Rs (s+p) a (s+p) a/\(k=0->0<=p):=λk _=>⟨h,Jzs hd,Jsp _ _,λ_=>p0⟩;simp only[J50,J7k,J0t,wp,e];by_cases c:1<=n/\n<=(J94 x m).getD 0
 ·obtain⟨m1,m2⟩:=Jf6 (x:=n) (y:=s+p) (by omega) (by omega) (by omega) t0;have e1:=oX (n*(s+p));obtain⟨d1,d2⟩:=Jhv (y:=a) m1 m2 (by omega);have e2:=oX (Int.tdiv (n*(s+p)) a);have e3:=oX ((J94 x m).getD 0 - n);have e4:=oX (a - n);obtain⟨u1,u2⟩:=Jt2 x ((J94 x m).getD 0 - n) (by omega) h.non;obtain⟨v1,v2⟩:=Jya x u1;rw[K0c,Option.getD_some]at v2;have hr:=K6g (p:=s+p) (a:=a) (by omega) m1;have put:∀{k:Int} {M:Um},k=Int.tdiv (n*(s+p)) a->¬p<k->K2g M->Jvq M=a - n->Jtc (j+1) M->Jcc s (w64 (p - k)) (a - n) M/\Jtc (j+1) M/\Rs (s+p) a (s+w64 (p - k)) (a - n)/\k<=p:=λ{k M} hk k1 k2 k3 k4=>by rw[oX (p - k)];exact⟨⟨s0,by omega,by omega,by omega,by omega,k3,k2⟩,k4,by rw[show s+(p - k)=s+p - k by omega,hk];exact hr,by omega⟩
  have nd:=K5b hd x ((J94 x m).getD 0 - n);simp only[e1,e2,e3,e4];repeat' first|exact same _ (by decide)|omega|exact put rfl (by omega) u1 (by omega) nd|exact put rfl (by omega) v1 (by omega) (Kej nd _)|simp only[true_implies,forall_const]|intro _|with_reducible apply And.intro
 repeat' first|exact same _ (by decide)|omega|contradiction|intro _|with_reducible apply And.intro
end
structure PwT(n k:Nat)(now q:Int)(D:List (List UInt8))(K:List (List (List UInt8)))(V:List Val)(s:Stt)(B:List Block)(c:Cli)(r:Int×Int×Int×Unit)(e:List (Int×Ent))(ca:List (Int×Ce))(cq:List Jcn×Unit)(mi:Mir)(x y z:Int)(us:Um)(ac:List Jcn):Prop where
 f_now:0<=now/\now<=1073741824
 f_q:0<=q/\q<=(k:Int)+1
 f_D:D=J8o n
 f_K:K=J8r n
 f_V:SetV n V
 f_s:Jmo s/\s.1.length<=k
 f_B:Kcw n B
 f_c:LiT B c
 f_r:0<=r.1/\r.1<=(k:Int)+1
 f_e:e.length<=6
 f_ca:CaT ca
 f_cq:CqT cq
 f_mi:K7y mi
 f_led:Jcc x y z us/\Jtc k us
 f_ac:ac.length<=200*k
theorem Keo{k:Nat}(hk:k<=100)(hr:0<=r.1/\r.1<=(k:Int)+1)(he:e.length<=6) q c ca cq mi x y z b us:Ok (J4m q () c r e () ca cq mi x y z b () us) (λo=>(o.2.1=0->0<=o.1/\o.1<=(k:Int)+2)/\(0<=o.2.2.1.1/\o.2.2.1.1<=(k:Int)+2)/\o.2.2.2.length<=6):=by
 have e1:=oX (r.1+1);have hq:Ok (J7g q) (λ_=>True):=by simp only[J7g,wp];repeat' first|trivial|intro _|with_reducible apply And.intro
 simp only[J4m,J45,wp];refine hq.imp λ_ _=>⟨λ_=>⟨by simp,by omega,he⟩,λ_=>⟨λ_=>⟨by simp,by omega,he⟩,λ_=>⟨λ_=>by omega,by omega, ?_⟩⟩⟩;exact Nat.le_trans (Kcd _) (by omega)
theorem K9z{e:List (Int×Ent)}(he:e.length<=6){ca:List (Int×Ce)}(hca:CaT ca)(i:Int)(r:Int×Int×Int×Unit)(c:Cli)(cq:List Jcn×Unit)(mi:Mir)(x y z:Int)(b:Bool)(us:Um):Ok (J4h i () c r e () ca cq mi x y z b () us) (λo=>o.2.1.length<=6/\CaT o.2.2):=by have h1:(J9s (Ty.beq (.int .i64)) i e).length<=6:=Nat.le_trans (Jyr _) he;have h2:CaT (J9s (Ty.beq (.int .i64)) i ca):=λx hx=>hca x (Jys hx);simp only[J4h,J5j,J62,wp];repeat' first|exact he|exact h1|exact hca|exact h2|intro _|with_reducible apply And.intro
theorem Ka3{ca:List (Int×Ce)}(hca:CaT ca) i j (e:List (Int×Ent)) (r:Int×Int×Int×Unit) (c:Cli) (cq:List Jcn×Unit) (mi:Mir) (x y z:Int) (b:Bool) (us:Um):Ok (J4i i j () c r e () ca cq mi x y z b () us) (λ_=>True):=by simp only[J4i,J26,J64,wp,Jtv (Kdb hca i)];repeat' first|trivial|intro _|with_reducible apply And.intro
theorem pdo_ok{n k:Nat}(hk:k<30){now q:Int}{V:List Val}{s:Stt}{B:List Block}{c:Cli}{r:Int×Int×Int×Unit}{e:List (Int×Ent)}{ca:List (Int×Ce)}{cq:List Jcn×Unit}{mi:Mir}{x y z:Int}{us:Um}{ac:List Jcn}(h:PwT n k now q D K V s B c r e ca cq mi x y z us ac){o:Opt}(ho:OqT o)(b:Bool):Ok (Jv o now q () () D K V s B () c r e () ca cq mi x y z b () us ac) (λ(R,now,q,_,_,D,K,s,_,c,r,e,_,ca,cq,mi,X,Y,Z,_,_,us,V,B,ac)=>PwT n (k+1) now q D K V s B c r e ca cq mi X Y Z us ac/\(o.1=5\/Rs (x+y) z (X+Y) Z)/\(o.1=11->R.1=0->R.2.1<=y)):=by
 obtain⟨g1,g2,rfl,rfl,g5,⟨g6,g6'⟩,g7,g8,g9,g10,g11,g12,g13,⟨g14,nd⟩,g15⟩:=h;obtain⟨⟨ht,hq⟩,hk2,hb⟩:=ho;have a1:0<=q/\q<=((k+1:Nat):Int)+1:=by omega
 have a2:0<=r.1/\r.1<=((k+1:Nat):Int)+1:=by omega
 have a3:Jmo s/\s.1.length<=k+1:=⟨g6,by omega⟩;have a4:ac.length<=200*(k+1):=by omega
 have gl:=And.intro g14 (Jzs nd);have un:∀{P Q:Prop} {i:Int},o.1=i->(i=11->False)->P->P/\(o.1=5\/Rs (x+y) z (x+y) z)/\(o.1=11->Q):=λe h p=>⟨p,.inr (Jsp _ _),λq=>(h (e.symm.trans q)).elim⟩;have same:∀{now},0<=now/\now<=1073741824->PwT n (k+1) now q (J8o n) (J8r n) V s B c r e ca cq mi x y z us ac:=λhn=>⟨hn,a1,rfl,rfl,g5,a3,g7,g8,a2,g10,g11,g12,g13,gl,a4⟩;have resp:∀{u:Int×Cli×List (Int×Ent)×List (Int×Ce)×(List Jcn×Unit)×List Jcn},CoT c (u.1,u.2.1,u.2.2.1,u.2.2.2.1,u.2.2.2.2.1)/\u.2.2.2.2.2.length<=ac.length+1->PwT n (k+1) now q (J8o n) (J8r n) V s B u.2.1 r u.2.2.1 u.2.2.2.1 u.2.2.2.2.1 mi x y z us u.2.2.2.2.2:=λ{u} ⟨⟨u1,u2,u3,u4⟩,u5⟩=>⟨g1,a1,rfl,rfl,g5,a3,g7,by rw[show u.2.1=c from u1];exact g8,a2,u2,u3,u4,g13,gl,by omega⟩;unfold Jv J4g J57 J4u;simp only[wp];refine⟨λq1=>(hdo_ok (ht q1) g6 (by omega) g5 _ _ _).imp λu hu=>un q1 (by decide) ?_,λ_=>⟨λq1=>(K1b g7 g5 g6 _).imp λu hu=> ?_,λ_=>⟨λq1=>⟨λ_=>un q1 (by decide) (same g1),λ_=>⟨λ_=>un q1 (by decide) (same g1),λ_=>un q1 (by decide) (same (by omega))⟩⟩,λ_=>⟨λq1=>(Kk g7 g8 g1 _ _ _ _ _ _ _ _ _ _ _ _ _ _ _ _ _).imp λu hu=>un q1 (by decide) ⟨g1,a1,rfl,rfl,g5,a3,g7,hu,a2,g10,g11,g12,g13,gl,a4⟩,λ_=>⟨λq1=>(K5q g13 g14 g10 g12 _ _ _ _).imp λu hu=>⟨?_,.inl q1,λh=>by omega⟩,λ_=>⟨λq1=>(Keo (by omega) g9 g10 _ _ _ _ _ _ _ _ _ _).imp λu hu=> ?_,λ_=>⟨λq1=>(K9z g10 g11 _ _ _ _ _ _ _ _ _ _).imp λu hu=>un q1 (by decide) ⟨g1,a1,rfl,rfl,g5,a3,g7,g8,a2,hu.1,hu.2,g12,g13,gl,a4⟩,λ_=>⟨λq1=>(K5o g7 g8 g1 g10 g11 g12 g6 _ _ _ _ _ _ _ _ _ _ _ (by omega) _ _).imp λu hu=>un q1 (by decide) (resp hu),λ_=>⟨λq1=>(K38 hb).imp λX hX=>⟨λq2=>(K7 g7 g8 g1 g10 g11 g12 ⟨⟨(hX q2).2.2.2,by have:=(hX q2).2.1;omega,by have:=(hX q2).2.2.1;omega⟩,by have:=(hX q2).1;omega⟩ _ _ _ _ _ _ _ (by omega) _ _ _ _ _).imp λu hu=>un q1 (by decide) (resp hu),λ_=>un q1 (by decide) (same g1)⟩,λ_=>⟨λq1=>(Ka1 g14 nd _ _ _).imp λu hu=>⟨⟨g1,a1,rfl,rfl,g5,a3,g7,g8,a2,g10,g11,g12,g13,⟨hu.1,hu.2.1⟩,a4⟩,.inr hu.2.2,λh=>by omega⟩,λ_=>⟨λq1=>(K1u g14 nd _ _ _).imp λu hu=>⟨⟨g1,a1,rfl,rfl,g5,a3,g7,g8,a2,g10,g11,g12,g13,⟨hu.1,hu.2.1⟩,a4⟩,.inr hu.2.2.1,λ_=>hu.2.2.2⟩,λ_=>⟨λq1=>(Ka3 g11 _ _ _ _ _ _ _ _ _ _ _ _).imp λ_ _=>un q1 (by decide) (same g1),λ_=>⟨λq1=>(K5u g7 g8 g1 g10 g11 g12 g6 _ _ _ _ _ _ _ _ _ _ _ (Nat.le_refl _) (by omega) (by omega)).imp λu hu=> ?_,λ_=>by omega⟩⟩⟩⟩⟩⟩⟩⟩⟩⟩⟩⟩⟩;·obtain⟨u1,u2,⟨u3,u4⟩,u5,u6⟩:=hu;exact⟨g1,a1,u1,u2,u6,⟨u3,Nat.le_trans u4 (Nat.succ_le_succ g6')⟩,by rw[u5];exact g7,by rw[u5];exact g8,a2,g10,g11,g12,g13,gl,a4⟩
 ·obtain⟨u1,u2,u3,⟨u4,u5⟩,u6,u7⟩:=hu;have hc:LiT u.2.2.2.2.2.2 c:=by
   rcases u7 with e|⟨b,e⟩;·rw[e];exact g8
   rw[e];exact K9q g8 _
  have fin:PwT n (k+1) now q u.2.2.1 u.2.2.2.1 u.2.2.2.2.1 u.2.2.2.2.2.1 u.2.2.2.2.2.2 c r e ca cq mi x y z us ac:=⟨g1,a1,u1,u2,by rw[u3];exact g5,⟨u4,by rw[u5];omega⟩,u6,hc,a2,g10,g11,g12,g13,gl,a4⟩;exact⟨λ_=>un q1 (by decide) fin,λ_=>un q1 (by decide) fin⟩
 ·obtain⟨u1,u2,u3,u4,u5,u6,u7,u8,u9,u10⟩:=hu;exact⟨g1,a1,rfl,rfl,g5,a3,g7,by rw[u1];exact g8,by rw[u2];exact a2,u3,by rw[u4];exact g11,u5,u6,by rw[u8,u9,u10];exact⟨u7,Jzs nd⟩,a4⟩
 ·obtain⟨u1,u2,u3⟩:=hu;exact⟨λq2=>un q1 (by decide) ⟨g1,by have:=u1 q2;omega,rfl,rfl,g5,a3,g7,g8,by omega,u3,g11,g12,g13,gl,a4⟩,λ_=>un q1 (by decide) ⟨g1,a1,rfl,rfl,g5,a3,g7,g8,by omega,u3,g11,g12,g13,gl,a4⟩⟩
 obtain⟨⟨s1,s2,s3,s4,s5⟩,u1,u2,u3,u4,u5,u6,u7,u8,u9,u10,u11,u12,u13⟩:=hu;refine⟨⟨by rw[u1];exact g1,by rw[u2];exact a1,u3,u4,by rw[u5];exact g5,by rw[u6];exact a3,by rw[u7];exact g7,by rw[u7];exact s1,by rw[u8];exact a2,s2,s3,s4,by rw[u9];exact g13,by rw[u10,u11,u12,u13];exact gl,Nat.le_trans s5 (by omega)⟩,.inr ?_,λh=>by omega⟩;rw[u10,u11,u12];exact Jsp _ _
theorem pw0(hp:Jkj p)(hq:∀i,p i<=9)(h1:1<=n)(hn:n<=4)(T:Int):PwT n 0 1 1 (J8o n) (J8r n) (J8n p n) (stR [] [[]]) (BL n p fI [[]]) ([hL n p fI [[]] 0],J8n p n,T,false,()) (1,0,0,()) (Jak gM 0 1) [] ([],()) (0,0,[],false,()) 0 0 0 [] []:=by
 have hV:=K69 hp hq hn;have hb:(BL n p fI [[]]).getD 0 Jw0=gL n p fI [[]] 0:=Kcu n p fI [[]] (by simp);have hl:(BL n p fI [[]]).length=1:=Jyg n p fI [[]];have hh:Jaw (hL n p fI [[]] 0):=Jnd n _ fI (K5y [[]] 0);have hr:Jap (hL n p fI [[]] 0)=true:=Jm5 (by omega) (by unfold fI;omega) (by unfold fI;omega);have h3:(hL n p fI [[]] 0).1=((0:Nat):Int)+1:=Ke1 _ _ _ _ _;refine⟨by omega,by omega,rfl,rfl,⟨hV,Jbl p n⟩,⟨K72 Jjz Joq (by simp),by simp[stR]⟩,⟨by omega,λi hi=> ?_⟩,⟨by simp,λx hx=>⟨0,by omega,by rw[List.mem_singleton.1 hx];rfl⟩,hV,rfl⟩,by simp,by simp[Jak],λx hx=>by simp at hx,⟨by simp,by simp⟩,by simp,⟨led0,.nil,Nat.le_refl _⟩,by simp⟩;obtain rfl:i=0:=by omega
 exact⟨⟨hh,Kfr (hL n p fI [[]] 0) (by rw[h3];decide) (by rw[h3];decide) hn,hV,hV⟩,hr,h3,Jbl p n⟩
def Jmi(m:Um)(l:List (List UInt8)):Int:=(l.map λk=>(J94 k m).getD 0).sum
theorem K76{m:Um}{l l':List (List UInt8)}(h:l.Perm l'):Jmi m l=Jmi m l':=by unfold Jmi;induction h with|nil=>rfl|cons x _ ih=>simp only[List.map_cons,List.sum_cons,ih]|swap x y l=>simp only[List.map_cons,List.sum_cons];omega|trans _ _ h1 h2=>rw[h1,h2]
theorem Jvp{p:List UInt8×Int}{r:Um}:∀{l:List (List UInt8)},p.1∉l->Jmi (p::r) l=Jmi r l
 |[],_=>rfl
 |k::l,h=>by
  have ih:=Jvp (p:=p) (r:=r) (l:=l) (by grind);have:J94 k (p::r)=J94 k r:=(by have:¬k=p.1:=(by grind);grind [J94]);unfold Jmi at*
  simp only[List.map_cons,List.sum_cons,this,ih]
theorem Jvo:∀{m:Um},Jtc k m->Jmi m (m.map (·.1))=Jvq m
 |[],_=>rfl
 |p::r,h=>by have h:=List.nodup_cons.1 h.1;have ih:=Jvo (m:=r) (k:=r.length) ⟨h.2,Nat.le_refl _⟩;have e:J94 p.1 (p::r)=some p.2:=(by grind [J94]);have s:Jmi (p::r) ((p::r).map (·.1))=p.2+Jmi (p::r) (r.map (·.1)):=(by unfold Jmi;simp only[List.map_cons,List.sum_cons,e,Option.getD_some]);rw[s,Jvp h.1,ih];simp only[Jvq]
theorem Jy7(h:K2g m):∀l,0<=Jmi m l
 |[]=>Int.le_refl _
 |k::l=>by have:=Jy7 h l;have:=(Joy k h).1;unfold Jmi at*;simp only[List.map_cons,List.sum_cons];omega
theorem K07{m:Um} l l':Jmi m (l++l')=Jmi m l+Jmi m l':=by unfold Jmi;simp
theorem sum_ok{ρ:Type}(hn:K2g m){l:List (List UInt8)}(hl:Jmi m l<=1073741824)(hk:l.length<=1000){f:Int->ρ}{step:Int×Int->Option ((Int×Int)⊕ρ)}(h:∀a b,step (a,b)=J8b (decide (b<(l.length:Int))) (need (0<=b/\b<(l.length:Int)) (some (.inl (w64 (a+(J94 (l.getD b.toNat []) m).getD 0),w64 (b+1))))) (some (.inr (f a)))):loop step (0,0)=some (f (Jmi m l)):=by
 suffices H:∀k i,i+k=l.length->loop step (Jmi m (l.take i),(i:Int))=some (f (Jmi m l))from H l.length 0 (by omega)
 intro k;induction k with
 |zero=>intro i e;rw[List.take_of_length_le (by omega)];exact J96 (by rw[h,oF])
 |succ k ih=>intro i e;have s:Jmi m (l.take (i+1))=Jmi m (l.take i)+(J94 (l.getD i []) m).getD 0:=(by rw[List.take_add_one,K07,List.getD_eq_getElem?_getD,List.getElem?_eq_getElem (by omega)];simp[Jmi]);have q:=K07 (m:=m) (l.take (i+1)) (l.drop (i+1));rw[List.take_append_drop]at q;have:=Jy7 hn (l.drop (i+1));have:=Jy7 hn (l.take (i+1));rw[J9l (s':=(Jmi m (l.take (i+1)),((i+1:Nat):Int))) (by rw[h,oT,oN,Int.toNat_natCast,<-s,oW,oW];rfl)];exact ih (i+1) (by omega)
theorem K4{e:List (Int×Ent)}{ca:List (Int×Ce)}{cq:List Jcn×Unit}{mi:Mir}{x y z:Int}{us:Um}{ac:List Jcn}(h:PwT n k now q D K V s B c r e ca cq mi x y z us ac) b:Ok (J3n () c r e () ca cq mi x y z b () us) (λ_=>True):=by obtain⟨_,_,_,_,_,_,_,⟨⟨l1,l2⟩,l3,l4,l5⟩,_,_,_,g12,g13,_,_⟩:=h;have v2:c.2.1.length<=10:=l4.1;have m1:mi.2.2.1.length<=1000:=g13;have l2:c.1.length<=6:=l2;unfold J3n J2a J2f J58 J5a J4z J4a J41 J8 Jj J0b J2t J3w J24;simp only[wp,Jr7 _ (Nat.le_trans g12.1 (by decide)) g12.2];exact⟨by omega,by omega,by omega,trivial⟩
theorem Kam(hn:n<=4) l {e:List (Int×Ent)} {ca:List (Int×Ce)} {cq:List Jcn×Unit} {mi:Mir} {x y z:Int} {b:Bool} {us:Um} {ac:List Jcn} (h:PwT n 0 now q D K V s B c r e ca cq mi x y z us ac) {w:RW} (hw:RwT n 0 w):Ok (Jo_2 l 0 now q () () D K V s B () c r e () ca cq mi x y z b () us ac w.1 w.2.1 w.2.2.1 w.2.2.2.1 w.2.2.2.2.1 w.2.2.2.2.2.1 w.2.2.2.2.2.2.1 w.2.2.2.2.2.2.2.1 w.2.2.2.2.2.2.2.2.1 w.2.2.2.2.2.2.2.2.2.1 w.2.2.2.2.2.2.2.2.2.2.1 w.2.2.2.2.2.2.2.2.2.2.2.1 w.2.2.2.2.2.2.2.2.2.2.2.2.1 w.2.2.2.2.2.2.2.2.2.2.2.2.2.1 w.2.2.2.2.2.2.2.2.2.2.2.2.2.2.1 w.2.2.2.2.2.2.2.2.2.2.2.2.2.2.2.1 w.2.2.2.2.2.2.2.2.2.2.2.2.2.2.2.2.1 w.2.2.2.2.2.2.2.2.2.2.2.2.2.2.2.2.2) (λ_=>True):=by
 refine Jee (λ(_,i,now,q,_,_,D,K,V,s,B,_,c,r,e,_,ca,cq,mi,x,y,z,_,_,us,ac,w1,w2,_,w4,w5,w6,w7,w8,w9,w10,w11,w12,w13,w14,w15,w16,w17,w18)=>∃k:Nat,i=k/\k<=25/\PwT n k now q D K V s B c r e ca cq mi x y z us ac/\RwT n k (w1,w2,(),w4,w5,w6,w7,w8,w9,w10,w11,w12,w13,w14,w15,w16,w17,w18)) (λi=>25 - i.2.1) ⟨0,rfl,by omega,h,hw⟩ λi hi=> ?_;clear h hw;obtain⟨l,i,now,q,_,_,D,K,V,s,B,_,c,r,e,_,ca,cq,mi,x,y,z,b,_,us,ac,w1,w2,_,w4,w5,w6,w7,w8,w9,w10,w11,w12,w13,w14,w15,w16,w17,w18⟩:=i;obtain⟨k,hk,hk2,hP,hR⟩:=hi;have e1:=oX (i+1);simp only[Jo_2_step,J1o,J0l,J41,J24,J0f,J0t,J7v,J20,J2s,J5l,J0d,Jo_1,wp,e1];refine⟨λc1=>⟨λc2=>⟨by omega,(kop_ok hR.2.1.1 hR.2.1.2 (by omega) hR.2.2 _ _ _).imp λo ho=>(K38 ho.2.2).imp λX hX=>(K4 hP _).imp λ_ _=>(pdo_ok (by omega) hP ho _).imp λu hu=>(wdo_ok hn (by omega) hR ho.1 (λq=>⟨by have:=(hX (of_decide_eq_true q)).1;omega,by have:=(hX (of_decide_eq_true q)).2.1;omega,(hX (of_decide_eq_true q)).2.2.2⟩)).imp λv hv=>(K4 hu.1 _).imp λ_ _=> ?_⟩,λ_=>trivial⟩,λ_=>trivial⟩;obtain⟨R,now',q',_,_,D',K',s',_,c',r',e',_,ca',cq',mi',X',Y',Z',b',_,us',V',B',ac'⟩:=u;obtain⟨hQ,hS,hT⟩:=hu;have L:=hP.f_led.1;have L':=hQ.f_led.1;have nd:=hQ.f_led.2;have z0:=L.a0;have z1:=L.a1;have z0':=L'.a0;have z1':=L'.a1;have y0:=L.p0;have y0':=L'.p0;have tp:=L.top;have tp':=L'.top;have s0:=L.s0;have s0':=L'.s0;have hs:=(K76 (Jk8 _)).trans ((Jvo nd).trans L'.sum);have S:=λρ=>@sum_ok _ ρ L'.non _ (by rw[hs];exact z1') (by rw[(Jk8 _).length_eq,List.length_map];have:=nd.2;omega);rw[hs]at S;have e2:=oX (x+y);have e3:=oX (X'+Y');obtain⟨m1,m2⟩:=Jf6 (x:=x+y) (y:=Z') (by omega) (by omega) z0' z1';obtain⟨m3,m4⟩:=Jf6 (x:=X'+Y') (y:=z) (by omega) (by omega) z0 z1;have e4:=oX ((x+y)*Z');have e5:=oX ((X'+Y')*z);dsimp only at hT hS⊢;rw[e2,e3,e4,e5];refine⟨λq5=>⟨by omega,by omega,λq6=>⟨by omega,by omega,λq7=>⟨by omega,by omega,by omega,by omega,λq8=>(q8 (hS.resolve_left q5 q6 q7)).elim,λ_=> ?_⟩,λ_=> ?_⟩,λ_=> ?_⟩,λ_=> ?_⟩
 all_goals
  refine⟨by have:=nd.2;omega, ?_⟩
  apply Ok.eq
  ·apply S
   intro a b
   unfold Jo_1_step J5o
   dsimp only
   rw[J8a]
  dsimp only
  rw[e1,e3]
  have fin:=And.intro hQ hv
  exact⟨by omega,by omega,by omega,λq=>(q rfl).elim,λ_=>⟨λq=>by omega,λ_=>⟨λq=>⟨λq'=>⟨λ_=>by have:=hT q q';omega,λ_=>⟨⟨k+1,by omega,by omega,fin⟩,by omega,by omega⟩⟩,λ_=>⟨⟨k+1,by omega,by omega,fin⟩,by omega,by omega⟩⟩,λ_=>⟨⟨k+1,by omega,by omega,fin⟩,by omega,by omega⟩⟩⟩⟩
theorem law_TopRound y0 y1 (w0:Wf (.slice (.int .i64)) y0) (w1:p):Jo y0 y1=some true:=by
 have e8:Jg8 (.int .i64)=8:=rfl;have hl:y0.length<=140737488351232:=by have:=w0.1;rw[e8]at this;omega
 obtain⟨h1,hn⟩:=Kw y0;obtain⟨b,hb,hf⟩:=begunH y0 hl fI rfl 80 (by omega);have hp:=Kev y0;have hq:=λi=>(pw_b y0 i).2;suffices H:Ok (Jo y0 y1) (· =true)by obtain⟨a,e,rfl⟩:=H;exact e
 unfold Jo;simp only[wp,hb,K0s];exact(Kam hn y1 (pw0 hp hq h1 hn 80) (rw0 hn (K69 hp hq hn) hf 80)).imp λ_ _=>trivial
end Go.Ax.V
