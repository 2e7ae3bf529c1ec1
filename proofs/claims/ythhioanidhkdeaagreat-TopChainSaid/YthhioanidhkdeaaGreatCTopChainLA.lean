/-
  What the light client trusts, in a world, is the host's chain.
-/
import Derived.Test.YthhioanidhkdeaaGreatCTopChainP
namespace Go.Ax.V
open Go.Ax
set_option linter.unusedVariables false
set_option linter.unusedSimpArgs false
set_option autoImplicit true
set_option relaxedAutoImplicit true
def J9s(f:Nat->τ->τ):Nat->Nat->τ->τ
 |_,0,t=>t
 |i,k+1,t=>J9s f (i+1) k (f i t)
theorem J8u {step : σ → Option (σ⊕ρ)} (st:Nat->τ->σ) (f:Nat->τ->τ) (g:τ->ρ) (n:Nat) (I:Nat->τ->Prop)
    (h1:∀i t,i<n->I i t->step (st i t)=some (.inl (st (i+1) (f i t)))/\I (i+1) (f i t))
    (h2:∀t,I n t->step (st n t)=some (.inr (g t))):∀(k i:Nat) (t:τ),i+k=n->I i t->loop step (st i t)=some (g (J9s f i k t))
  | 0, i, t, e, h => by have:i=n:=by omega
                        subst this;exact J9d (h2 t h)
  | k+1,i,t,e,h=>by
    rw[J9v (h1 i t (by omega) h).1]
    exact J8u st f g n I h1 h2 k (i+1) (f i t) (by omega) (h1 i t (by omega) h).2
theorem Nat.find_of{p:Nat->Prop}(h:∃n,p n):∃n,p n/\∀m,m<n->¬p m:=by
 obtain⟨n,hn⟩:=h
 induction n using Nat.strongRecOn with
 |_ n ih=>
  grind
def scan(bad:Nat->Option ρ)(r0:ρ):Nat->Nat->ρ
 |_,0=>r0
 |i,k+1=>match bad i with
  |some r=>r
  |none=>scan bad r0 (i+1) k
theorem Jff:∀(k i:Nat),(∀j,i<=j->j<i+k->bad j=none)->scan bad r0 i k=r0
 |0,i,_=>rfl
 |k+1,i,h=>by
  rw[scan,h i (Nat.le_refl _) (by omega)]
  exact Jff k (i+1) λj h1 h2=>h j (by omega) (by omega)
theorem Je6:∀(k i j:Nat),i<=j->j<i+k->(∀j',i<=j'->j'<j->bad j'=none)->bad j=some r->scan bad r0 i k=r
 |0,i,j,h1,h2,_,_=>by omega
 | k+1,i,j,h1,h2,h3,h4=>by
  rw[scan]
  by_cases e:i=j
  ·subst e;rw[h4]
  ·rw[h3 i (Nat.le_refl _) (by omega)]
   exact Je6 k (i+1) j (by omega) (by omega) (λj' g1 g2=>h3 j' (by omega) g2) h4
theorem Jca {step :σ->Option (σ⊕ρ)} (st:Nat->σ) (bad:Nat->Option ρ) (r0:ρ) (n:Nat) (h1:∀i,i<n->bad i=none->step (st i)=some (.inl (st (i+1))))
    (h2:∀i r,i<n->bad i=some r->step (st i)=some (.inr r)) (h3:step (st n)=some (.inr r0)):∀(k i:Nat),i+k=n->loop step (st i)=some (scan bad r0 i k)
  | 0, i, e => by have:i=n:=by omega
                  subst this;exact J9d h3
  | k +1,i,e=>by
    rw[scan]
    split
    · rename_i r hr;exact J9d (h2 i r (by omega) hr)
    · rename_i hn
      rw[J9v (h1 i (by omega) hn)]
      exact Jca st bad r0 n h1 h2 h3 k (i+1) (by omega)
theorem J8f:J8e (some a) k=k a:=rfl
theorem J8w[Decidable p](h:p):J8g (decide p) x y=x:=by rw[decide_eq_true h];rfl
theorem J90[Decidable p](h:¬p):J8g (decide p) x y=y:=by rw[decide_eq_false h];rfl
theorem oW{n:Int}(h: -9223372036854775808<=n:=by omega)(k:n<=9223372036854775807:=by omega):w64 n=n:=J9t h k
theorem oX(n:Int)(h: -9223372036854775808<=n:=by omega)(k:n<=9223372036854775807:=by omega):w64 n=n:=J9t h k
theorem oN{α:Type}{c:Prop}[Decidable c]{x:Option α}(h:c:=by omega):need c x=x:=J8i h
theorem oT{α:Type}{c:Prop}[Decidable c]{x y:Option α}(h:c:=by omega):J8g (decide c) x y=x:=J8w h
theorem oF{α:Type}{c:Prop}[Decidable c]{x y:Option α}(h:¬c:=by omega):J8g (decide c) x y=y:=J90 h
theorem oI{α:Sort _}{c:Prop}[Decidable c]{x y:α}(h:c:=by omega):ite c x y=x:=if_pos h
theorem oJ{α:Sort _}{c:Prop}[Decidable c]{x y:α}(h:¬c:=by omega):ite c x y=y:=if_neg h
theorem Jcq[Decidable p](h:p):J8g (!decide p) x y=y:=by rw[decide_eq_true h];rfl
theorem Jd9[Decidable p](h:¬p):J8g (!decide p) x y=x:=by rw[decide_eq_false h];rfl
theorem Jbz:J8g true x y=x:=rfl
theorem J8y:J8g false x y=y:=rfl
theorem Jmb:J8g b x y=if b then x else y:=by cases b<;>rfl
theorem Jgu(l:List α)(u:Int):Ja1 l 0 u=l.take u.toNat:=rfl
theorem Jbt(l:List α)(u:Int):Ja1 l u (l.length:Int)=l.drop u.toNat:=by
 unfold Ja1;rw[Int.toNat_natCast,List.take_of_length_le (Nat.le_refl _)]
theorem Jye(t:Ty)(h:t.comp=true)(x:t.den):Ty.beq t x x=true:=(Ty.beq_iff t h x x).2 rfl
theorem Jj8 x:Ty.beq (.arr 32 (.int .u8)) x x=true:=Jye (.arr 32 (.int .u8)) rfl x
def Ok{α:Type}(x:Option α)(Q:α->Prop):Prop:=∃a,x=some a/\Q a
section
variable {α β σ ρ : Type} {x y : Option α} {Q R : α → Prop} {a : α}
theorem Jkk:Ok (some a) Q↔Q a:=⟨λ⟨_,h,q⟩=>by cases h;exact q,λq=>⟨_,rfl,q⟩⟩
theorem ok_0:Ok (none:Option α) Q↔False:=⟨λ⟨_,h,_⟩=>(nomatch h),False.elim⟩
theorem ok_b{k:α->Option β}{Q:β->Prop}:Ok (J8e x k) Q↔Ok x λa=>Ok (k a) Q:=by
 cases x with
 |none=>exact⟨λ⟨_,h,_⟩=>(nomatch h),λ⟨_,h,_⟩=>(nomatch h)⟩
 |some a=>exact(Jkk (Q:=λa=>Ok (k a) Q)).symm
theorem ok_f{b:Bool}:Ok (J8g b x y) Q↔(b=true->Ok x Q)/\(b=false->Ok y Q):=by
 cases b<;>simp[J8g]
theorem ok_n{c:Prop}[Decidable c]:Ok (need c x) Q↔c/\Ok x Q:=by
 unfold need
 by_cases h:c
 ·simp[h]
 ·simp[h,ok_0]
theorem Ok.imp(h:Ok x R)(k:∀a,R a->Q a):Ok x Q:=by
 obtain⟨a,e,q⟩:=h;exact⟨a,e,k a q⟩
theorem Ok.eq(e:x=some a)(q:Q a):Ok x Q:=⟨a,e,q⟩
def Rd(I:σ->Prop)(m:σ->Int)(Q:ρ->Prop)(s:σ):σ⊕ρ->Prop
 | .inl t=>I t/\0<=m t/\m t<m s
 | .inr r=>Q r
theorem Jeg{step:σ->Option (σ⊕ρ)}{Q:ρ->Prop}(I:σ->Prop)(m:σ->Int){s:σ}(hi:I s)(h:∀s,I s->Ok (step s) (Rd I m Q s)):Ok (loop step s) Q:=by
 suffices H:∀n s,(m s).toNat<n->I s->Ok (loop step s) Q from H _ s (Nat.lt_succ_self _) hi
 intro n
 induction n with
 |zero=>intro s h1;omega
 |succ n ih=>
  intro s h1 hi
  obtain⟨r,e,q⟩:=h s hi
  cases r with
  |inl t=>rw[J9v e];exact ih t (by have:=q.2;omega) q.1
  |inr r=>exact⟨r,J9d e,q⟩
end
theorem wp:(∀{α:Type} {Q:α->Prop} {a:α},Ok (some a) Q↔Q a)/\(∀{α:Type} {Q:α->Prop},Ok none Q↔False)/\(∀{α β:Type} {x:Option α} {k:α->Option β} {Q:β->Prop},Ok (J8e x k) Q↔Ok x λa=>Ok (k a) Q)
  /\(∀{α:Type} {Q:α->Prop} {x y:Option α} {b:Bool},Ok (J8g b x y) Q↔(b=true->Ok x Q)/\(b=false->Ok y Q))/\(∀{α:Type} {Q:α->Prop} {x:Option α} {c:Prop} [Decidable c],Ok (need c x) Q↔c/\Ok x Q)
  /\(∀{σ ρ:Type} {I:σ->Prop} {m:σ->Int} {Q:ρ->Prop} {s t:σ},Rd I m Q s (.inl t)↔I t/\0<=m t/\m t<m s)/\(∀{σ ρ:Type} {I:σ->Prop} {m:σ->Int} {Q:ρ->Prop} {s:σ} {r:ρ},Rd I m Q s (.inr r)↔Q r)
  /\(∀{p:Prop} [Decidable p],(decide p=true)↔p)/\(∀{p:Prop} [Decidable p],(decide p=false)↔¬p)/\(∀{b:Bool},((!b)=true)↔b=false)/\(∀{b:Bool},((!b)=false)↔b=true):=
 ⟨Jkk,ok_0,ok_b,ok_f,ok_n,.rfl,.rfl,decide_eq_true_iff,decide_eq_false_iff_not,by simp,by simp⟩
theorem Jjt(a:Nat):(BitVec.ofInt 64 (a:Int)).toNat=a%18446744073709551616:=by
 rw[BitVec.toNat_ofInt];omega
theorem Jr4(a b:Nat)(ha:a<9223372036854775808)(hb:b<9223372036854775808):Jpe (a:Int) (b:Int)=((a&&& b:Nat):Int):=by
 unfold Jpe
 have hle:a&&& b<=a:=Nat.and_le_left
 rw[BitVec.toNat_and,Jjt,Jjt,Nat.mod_eq_of_lt (by omega),Nat.mod_eq_of_lt (by omega)]
 exact oW
theorem Jw2(a b:Nat)(h:(a|||b)<9223372036854775808):bor (a:Int) (b:Int)=((a|||b:Nat):Int):=by
 unfold bor
 have h1:a<=a|||b:=Nat.left_le_or
 have h2:b<=a|||b:=Nat.right_le_or
 rw[BitVec.toNat_or,Jjt,Jjt,Nat.mod_eq_of_lt (by omega),Nat.mod_eq_of_lt (by omega)]
 exact oW
theorem K2k(a:Nat)(ha:a<9223372036854775808):Jpe (a:Int) 127=((a%128:Nat):Int):=by
 rw[show(127:Int)=((127:Nat):Int)from rfl,Jr4 a 127 ha (by omega),show(127:Nat)=2^7 - 1 from rfl,Nat.and_two_pow_sub_one_eq_mod]
theorem K53 a c k (h:a<2^k):a|||(c*2^k)=a+c*2^k:=by
 rw[Nat.or_comm,<-Nat.shiftLeft_eq,<-Nat.shiftLeft_add_eq_or_of_lt h,Nat.add_comm]
theorem Kb9(a:Nat)(h:a<128):bor (a:Int) 128=((a+128:Nat):Int):=by
 have e:=K53 a 1 7 h
 rw[show(128:Int)=((128:Nat):Int)from rfl,Jw2 a 128 (by simp only[Nat.one_mul]at e;rw[e];omega)]
 rw[e]
theorem Jzb(a k:Nat)(hk:k<=64):ishr (a:Int) k=((a / 2^k:Nat):Int):=by
 unfold ishr
 rw[Nat.min_eq_left hk,Int.fdiv_eq_ediv_of_nonneg _ (by exact_mod_cast Nat.zero_le _)]
 exact_mod_cast rfl
theorem K95(a k:Nat)(hk:k<=64)(h:a*2^k<9223372036854775808):Jwx (a:Int) k=((a*2^k:Nat):Int):=by
 unfold Jwx
 rw[Nat.min_eq_left hk]
 have e:(a:Int)*2^k=((a*2^k:Nat):Int):=by exact_mod_cast rfl
 exact oW
theorem u8_and127(b:UInt8):(b&&& 127).toNat=b.toNat%128:=by
 rw[UInt8.toNat_and,show(127:UInt8).toNat=2^7 - 1 from rfl,Nat.and_two_pow_sub_one_eq_mod]
theorem Jcg(a:Nat):UInt8.ofNat (Int.toNat ((a:Int)%256))=UInt8.ofNat a:=by
 rw[show Int.toNat ((a:Int)%256)=a%256 from by omega]
 apply UInt8.toNat_inj.1
 simp
def K3:Nat->Nat->List UInt8
 |0,n=>[UInt8.ofNat n]
 |f+1,n=>if n<128 then[UInt8.ofNat n]else UInt8.ofNat (n%128+128)::K3 f (n / 128)
def Jev(n:Int):List UInt8:=if 0<=n/\n<=1099511627775 then K3 6 n.toNat else[]
theorem Jsg:∀(f n:Nat),(K3 f n).length<=f+1
 |0,_=>by simp[K3]
 |f+1,n=>by
  rw[K3];split
  ·simp
  ·have:=Jsg f (n / 128);simp;omega
theorem J9o(n:Int):(Jev n).length<=7:=by
 unfold Jev;split
 ·exact Jsg 6 _
 ·simp
theorem Jzp:∀(f n:Nat) (acc:List UInt8),n<128^(f+1)->n<9223372036854775808->acc.length<=1000 - f->f<=10->∃(m:Nat) (l:List UInt8),J2z_1 (n:Int) acc=some ((m:Int),acc++l)/\l++[UInt8.ofNat m]=K3 f n/\(acc++l).length<=1000
 |0,n,acc,h,h2,ha,_=>by
  refine⟨n,[], ?_,rfl,by simp;omega⟩
  rw[List.append_nil]
  unfold J2z_1
  refine J9d ?_
  unfold J2z_1_step
  rw[oF]
 | f+1,n,acc,h,h2,ha,hf=>by
  by_cases hn:n<128
  ·refine⟨n,[], ?_,by rw[K3,if_pos hn];rfl,by simp;omega⟩
   rw[List.append_nil]
   unfold J2z_1
   refine J9d ?_
   unfold J2z_1_step
   rw[oF]
  ·have hs:J2z_1_step (n:Int) acc=some (.inl (((n / 128:Nat):Int),acc++[UInt8.ofNat (n%128+128)])):=by
    unfold J2z_1_step
    rw[oT,J8i (by simp;omega),K2k n (by omega),Kb9 _ (by omega),Jcg,show Int.toNat 7=7 from rfl,Jzb n 7 (by omega)]
   have hd:n / 128<128^(f+1):=by
    omega
   obtain⟨m,l,h4,h5,h6⟩:=Jzp f (n / 128) (acc++[UInt8.ofNat (n%128+128)]) hd (by omega) (by simp;omega) (by omega)
   refine⟨m,UInt8.ofNat (n%128+128)::l, ?_, ?_, ?_⟩
   ·unfold J2z_1 at h4⊢
    rw[J9v (s':=(((n / 128:Nat):Int),acc++[UInt8.ofNat (n%128+128)])) hs,h4]
    simp
   ·rw[K3,if_neg hn,<-h5];rfl
   ·simpa using h6
theorem K51(n:Int):J2z n=some (Jev n):=by
 unfold J2z Jev
 by_cases h0:n<0
 ·rw[J8w h0,oJ]
 ·rw[J90 h0]
  by_cases h1:1099511627775<n
  ·rw[J8w h1,oJ]
  ·rw[J90 h1,oI]
   obtain⟨k,rfl⟩:=Int.eq_ofNat_of_zero_le (show 0<=n by omega)
   obtain⟨m,l,h2,h3,h4⟩:=Jzp 6 k [] (by omega) (by omega) (by simp) (by omega)
   rw[h2,J8f]
   simp only[List.nil_append]at h4⊢
   rw[J8i (by simp;omega),Jcg,h3]
   rfl
def Jdf(l:List Int):List UInt8:=l.flatMap Jev
theorem Jsh:∀(l:List Int),(Jdf l).length<=7*l.length
 |[]=>by simp[Jdf]
 |n::l=>by
  have:=Jsh l
  have h:=J9o n
  unfold Jdf at this⊢
  grind
theorem Jf4(f:α->List β)(l:List α)(z:α){i:Nat}(h:i<l.length):(l.take (i+1)).flatMap f=(l.take i).flatMap f++f (l.getD i z):=by
 rw[List.take_add_one]
 grind
theorem put_eq(l:List Int)(hl:l.length<=100000000):J16 l=some (Jdf l):=by
 have main:J16_1 l (l.length:Int) 0 []=some (Jdf l):=by
  have:=J8u (step:=λ(s:Int×List UInt8)=>J16_1_step l (l.length:Int) s.1 s.2) (λi (_:Unit)=>((i:Int),Jdf (l.take i))) (λ_ _=>()) (λ_=>Jdf l) l.length (λ_ _=>True) (λi w hi _=>⟨?_,trivial⟩) (λw _=> ?_) l.length 0 () (by omega) trivial
  ·exact this
  ·show J16_1_step l (l.length:Int) (i:Int) (Jdf (l.take i))=_
   unfold J16_1_step
   have b:=Jsh (l.take i)
   have b2:=J9o (l.getD i 0)
   rw[List.length_take]at b
   rw[oT,oN,K51,J8f,Int.toNat_natCast,oN,oW]
   unfold Jdf
   rw[Jf4 Jev l 0 hi]
   rfl
  ·unfold J16_1_step
   rw[oF,List.take_of_length_le (Nat.le_refl _)]
 unfold J16
 rw[main,J8f]
theorem Jww(l:List (List UInt8))(hl:l.length<=1000000)(h:∀x∈l,x.length=32):J26 l=some l.flatten:=by
 have hlen:∀i,((l.take i).flatten).length<=32*l.length:=by
  intro i
  have:∀(m:List (List UInt8)),(∀x∈m,x.length=32)->m.flatten.length=32*m.length:=by
   intro m
   induction m with
   |nil=>intro _;rfl
   |cons a m ih=>intro hm;rw[List.flatten_cons,List.length_append,ih (λx hx=>hm x (List.mem_cons_of_mem _ hx)),hm a List.mem_cons_self,List.length_cons];omega
  grind
 have main:J26_1 l (l.length:Int) 0 []=some l.flatten:=by
  have:=J8u (step:=λ(s:Int×List UInt8)=>J26_1_step l (l.length:Int) s.1 s.2) (λi (_:Unit)=>((i:Int),(l.take i).flatten)) (λ_ _=>()) (λ_=>l.flatten) l.length (λ_ _=>True) (λi w hi _=>⟨?_,trivial⟩) (λw _=> ?_) l.length 0 () (by omega) trivial
  ·exact this
  ·show J26_1_step l (l.length:Int) (i:Int) (l.take i).flatten=_
   unfold J26_1_step
   have b:=hlen i
   have hm:(l.getD i (List.replicate 32 0)).length=32:=h _ (by rw[List.getD_eq_getElem?_getD,List.getElem?_eq_getElem hi];exact List.getElem_mem _)
   have e:=Jf4 (λx:List UInt8=>x) l (List.replicate 32 0) hi
   simp at e
   rw[oT,oN,Int.toNat_natCast,oN,oW,e]
   rfl
  ·unfold J26_1_step
   rw[oF,List.take_of_length_le (Nat.le_refl _)]
 unfold J26
 rw[main,J8f]
abbrev Rdr:=List UInt8×Bool×Unit
def Kap(n:Nat)(r:Rdr):List UInt8×Rdr:=if r.2.1 then([],(r.1,true,()))else if r.1.length<n then([],(r.1,true,()))else(r.1.take n,(r.1.drop n,false,()))
theorem K6t(n:Nat)(hn:n<=1000) r:J1s (n:Int) r=some (Kap n r):=by
 obtain⟨l,b,u⟩:=r
 unfold J1s Kap
 cases b with
 |true=>rfl
 | false=>
  simp only[J8y,Bool.false_eq_true,if_false]
  by_cases h:l.length<n
  ·rw[oT,if_pos h]
  ·rw[oF,if_neg h,oN,oN]
   have e1:Ja1 l 0 (n:Int)=l.take n:=by rw[Jgu,Int.toNat_natCast]
   have e2:Ja1 l (n:Int) (l.length:Int)=l.drop n:=by rw[Jbt,Int.toNat_natCast]
   rw[e1,e2]
def K1d:Nat->Nat->Nat->List UInt8->Int×Rdr
 |0,_,_,l=>(0,l,true,())
 |k+1,i,acc,[]=>(0,[],true,())
 | k+1,i,acc,b::l=>if b.toNat<128 then(if 1099511627775<acc+b.toNat*128^i\/(b=0/\0<i)then(0,l,true,())else(((acc+b.toNat*128^i:Nat):Int),l,false,()))
   else K1d k (i+1) (acc+(b.toNat%128)*128^i) l
def Jzm(r:Rdr):Int×Rdr:=if r.2.1 then(0,(r.1,true,()))else K1d 6 0 0 r.1
theorem Jzn:∀(k i acc:Nat) (l:List UInt8),i+k=6->acc<128^i->
  (match J7_1 (acc:Int) ((7*i:Nat):Int) (l,false,())with|some (.inl o)=>some (o.1,o.2)|some (.inr o)=>some ((0:Int),(o.1,true,()))|none=>none)=some (K1d k i acc l)
 | 0,i,acc,l,hi,ha=>by
  have:i=6:=by omega
  subst this
  have:J7_1 (acc:Int) ((7*6:Nat):Int) (l,false,())=some (.inr (l,false,())):=by
   unfold J7_1
   refine J9d ?_
   show J7_1_step (acc:Int) ((7*6:Nat):Int) (l,false,())=_
   unfold J7_1_step
   rw[oF]
  rw[this];rfl
 | k+1,i,acc,[],hi,ha=>by
  have:J7_1 (acc:Int) ((7*i:Nat):Int) ([],false,())=some (.inl (0,([],true,()))):=by
   unfold J7_1
   refine J9d ?_
   show J7_1_step (acc:Int) ((7*i:Nat):Int) ([],false,())=_
   unfold J7_1_step
   rw[oT,show(1:Int)=((1:Nat):Int)from rfl,K6t 1 (by omega),J8f]
   rfl
  rw[this];rfl
 | k +1,i,acc,b::l,hi,ha=>by
  have hp:128^i=2^(7*i):=by rw[Nat.pow_mul]
  have hb:=b.toNat_lt
  have hpi:128^i<=128^5:=Nat.pow_le_pow_right (by omega) (by omega)
  have hm:(b.toNat%128)*128^i<=127*128^i:=Nat.mul_le_mul_right _ (by omega)
  have e:bor (acc:Int) (Jwx ((UInt8.toNat (b&&& 127):Nat):Int) (7*i))=((acc+(b.toNat%128)*128^i:Nat):Int):=by
   rw[u8_and127,K95 _ _ (by omega) (by rw[<-hp];omega),hp]
   have ho:=K53 acc (b.toNat%128) (7*i) (by rw[<-hp];exact ha)
   rw[Jw2 _ _ (by rw[ho,<-hp];omega),ho]
  have ht:Kap 1 (b::l,false,())=([b],(l,false,())):=by
   unfold Kap
   rfl
  have step:∀r,J7_1_step (acc:Int) ((7*i:Nat):Int) (b::l,false,())=some r↔(if b.toNat<128 then(if 1099511627775<acc+b.toNat*128^i then some (.inr (.inr (l,false,())))else if b=0 then(if 0<i then some (.inr (.inr (l,false,())))else some (.inr (.inl (((acc+b.toNat*128^i:Nat):Int),l,false,()))))else some (.inr (.inl (((acc+b.toNat*128^i:Nat):Int),l,false,()))))else some (.inl (((acc+(b.toNat%128)*128^i:Nat):Int),((7*(i+1):Nat):Int),(l,false,()))))=some r:=by
   intro r
   unfold J7_1_step
   rw[oT,show(1:Int)=((1:Nat):Int)from rfl,K6t 1 (by omega),J8f,ht]
   simp only[List.length_cons,List.length_nil,Int.toNat_zero,List.getD_cons_zero,Int.toNat_natCast,e]
   rw[oF,oN,oN,oW]
   by_cases h1:b.toNat<128
   ·have hlt:b<128:=UInt8.lt_iff_toNat_lt.2 h1
    rw[J8w hlt,if_pos h1,Nat.mod_eq_of_lt h1]
    by_cases h2:1099511627775<acc+b.toNat*128^i
    ·rw[oT,if_pos h2]
    ·rw[oF,if_neg h2]
     by_cases h3:b=0
     ·rw[J8w h3,if_pos h3]
      by_cases h4:0<i
      ·rw[oT,if_pos h4]
      ·rw[oF,if_neg h4]
     ·rw[J90 h3,if_neg h3]
   ·have hlt:¬b<128:=λh=>h1 (UInt8.lt_iff_toNat_lt.1 h)
    rw[J90 hlt,if_neg h1,show((7*i:Nat):Int)+7=((7*(i+1):Nat):Int)from by omega]
  rw[K1d]
  by_cases h1:b.toNat<128
  ·rw [if_pos h1]
   have go:∀r,(if 1099511627775<acc+b.toNat*128^i then some (.inr (.inr (l,false,())))else if b=0 then(if 0<i then some (.inr (.inr (l,false,())))else some (.inr (.inl (((acc+b.toNat*128^i:Nat):Int),l,false,()))))else some (.inr (.inl (((acc+b.toNat*128^i:Nat):Int),l,false,()))))=some (.inr r:(Int×Int×Rdr)⊕((Int×Rdr)⊕Rdr))->
     J7_1 (acc:Int) ((7*i:Nat):Int) (b::l,false,())=some r:=by
    intro r hr
    unfold J7_1
    refine J9d ?_
    grind
   by_cases h2:1099511627775<acc+b.toNat*128^i
   ·simp_all
   ·by_cases h3:b=0/\0<i
    ·simp_all
    ·rw[go (.inl (((acc+b.toNat*128^i:Nat):Int),l,false,())) (by
      rw[if_neg h2]
      by_cases h4:b=0
      ·grind
      ·rw[if_neg h4]),if_neg (λh=>h.elim h2 h3)]
  ·rw[if_neg h1,<-Jzn k (i+1) (acc+(b.toNat%128)*128^i) l (by omega) (by omega)]
   have hs:=(step _).2 (by rw[if_neg h1])
   unfold J7_1
   rw[J9v hs]
theorem number_eq r:J7 r=some (Jzm r):=by
 obtain⟨l,b,u⟩:=r
 unfold J7 Jzm
 cases b with
 | true=>
  have:J7_1 0 0 (l,true,())=some (.inl (0,(l,true,()))):=by
   refine J9d ?_
   rfl
  rw[this];rfl
 |false=>
  have:=Jzn 6 0 0 l rfl (by decide)
  rw[if_neg (by simp),<-this]
  cases J7_1 0 0 (l,false,())with
  |none=>rfl
  |some o=>cases o<;>rfl
theorem Jqk(h:n<128):∀f,K3 f n=[UInt8.ofNat n]
 |0=>rfl
 |f+1=>by rw[K3,if_pos h]
theorem Jzl:∀(f k i acc n:Nat) (rest:List UInt8),i+k=6->(0<i->1<=n)->acc+n*128^i<=1099511627775->acc<128^i->k<=f+1->(n<128->1<=k)->K1d k i acc (K3 f n++rest)=(((acc+n*128^i:Nat):Int),rest,false,())
 | f,k,i,acc,n,rest,hi,hn,hb,ha,hk,h1=>by
  by_cases hs:n<128
  ·rw[Jqk hs f]
   obtain⟨k,rfl⟩:∃k',k=k'+1:=⟨k - 1,by have:=h1 hs;omega⟩
   show K1d (k+1) i acc (UInt8.ofNat n::rest)=_
   have hb':(UInt8.ofNat n).toNat=n:=by rw[UInt8.toNat_ofNat'];omega
   rw[K1d,hb',if_pos hs,if_neg]
   rintro(h|⟨h,h0⟩)
   ·omega
   ·have:=hn h0
    rw[<-UInt8.toNat_inj,hb']at h
    have:n=0:=h
    omega
  ·have hi6:i<5:=by
    rcases Nat.lt_or_ge i 5 with h|h
    ·exact h
    ·have:128^5<=128^i:=Nat.pow_le_pow_right (by omega) h
     have:128*128^i<=n*128^i:=Nat.mul_le_mul_right _ (by omega)
     omega
   obtain⟨k,rfl⟩:∃k',k=k'+1:=⟨k - 1,by omega⟩
   obtain⟨f,rfl⟩:∃f',f=f'+1:=⟨f - 1,by omega⟩
   rw[K3,if_neg hs,List.cons_append]
   have hb':(UInt8.ofNat (n%128+128)).toNat=n%128+128:=by rw[UInt8.toNat_ofNat'];omega
   rw[K1d,hb',oJ,show(n%128+128)%128=n%128 from by omega]
   have he:acc+n%128*128^i+n / 128*128^(i+1)=acc+n*128^i:=by
    have hn2:n*128^i=(n%128+128*(n / 128))*128^i:=by congr 1;omega
    grind
   have hm:(n%128)*128^i<=127*128^i:=Nat.mul_le_mul_right _ (by omega)
   rw[Jzl f k (i+1) _ (n / 128) rest (by omega) (λ_=>by omega) (by rw[he];exact hb) (by omega) (by omega) (λ_=>by omega),he]
theorem K4z(n:Int)(h0:0<=n)(h1:n<=1099511627775) rest:Jzm (Jev n++rest,false,())=(n,rest,false,()):=by
 unfold Jzm Jev
 rw[if_neg (by simp),if_pos ⟨h0,h1⟩]
 have:=Jzl 6 6 0 0 n.toNat rest rfl (λh=>by omega) (by omega) (by decide) (by omega) (λ_=>by omega)
 rw[this]
 congr 1
 omega
abbrev Hdr:=Int×Int×List UInt8×List UInt8×List UInt8×List UInt8×Unit
def Jav(h:Hdr):Bool:=decide (1<=h.1)&&(decide (h.1<=16)&&(decide (0<=h.2.1)&&decide (h.2.1<=1073741824)))
theorem Jfc h:J5u h=some (Jav h):=by
 unfold J5u Jav
 simp only[Jmb]
 grind
theorem Jba(h:Hdr):Jav h=true↔(1<=h.1/\h.1<=16)/\0<=h.2.1/\h.2.1<=1073741824:=by
 unfold Jav
 grind
def Jb3(h:Hdr):Prop:=h.2.2.1.length=32/\h.2.2.2.1.length=32/\h.2.2.2.2.1.length=32/\h.2.2.2.2.2.1.length=32
def Jgr(h:Hdr):List UInt8:=Jev h.1++(Jev h.2.1++(h.2.2.1++(h.2.2.2.1++(h.2.2.2.2.1++h.2.2.2.2.2.1))))
def Jf1(h:Hdr):List UInt8:=if Jav h then Jgr h else[]
theorem K7z h (hh:Jb3 h):J7r h=some (Jf1 h):=by
 obtain⟨a,b,c,d⟩:=hh
 unfold J7r Jf1
 rw[Jfc,J8f]
 cases Jav h with
 |false=>rfl
 | true=>
  rw[show(!true)=false from rfl,J8y,put_eq _ (by simp),J8f,Jww _ (by simp) (by
   intro x hx
   simp at hx
   rcases hx with rfl|rfl|rfl|rfl<;>assumption),J8f]
  have l1:=Jsh [h.1,h.2.1]
  simp at l1
  rw[J8i (by simp;omega)]
  simp[Jdf,Jgr]
theorem Jyf h (hh:Jb3 h):(Jgr h).length<=142:=by
 obtain⟨a,b,c,d⟩:=hh
 have:=J9o h.1
 have:=J9o h.2.1
 unfold Jgr
 grind
def Jy6:Hdr:=(0,0,List.replicate 32 0,List.replicate 32 0,List.replicate 32 0,List.replicate 32 0,())
theorem Kdd(r:Rdr):J37 r=some (!r.2.1&&decide (r.1=[])):=by
 obtain⟨l,b,u⟩:=r
 cases b with
 |true=>rfl
 |false=>
  show some (decide ((l.length:Int)=0))=some (true&&decide (l=[]))
  simp_all
set_option maxRecDepth 100000
def Jfj(x:UInt32)(n:Nat):UInt32:=UInt32.ofNat (x.toNat<<<(32 - n))|||UInt32.ofNat (x.toNat>>>n)
def shr(x:UInt32)(n:Nat):UInt32:=UInt32.ofNat (x.toNat>>>n)
def Kd2(b:List UInt8)(i k:Nat):UInt32:=UInt32.ofNat (UInt32.toNat (UInt32.ofNat (UInt8.toNat (List.getD b i 0)))<<<k)
def word(b:List UInt8)(i:Nat):UInt32:=((Kd2 b (4*i) 24|||Kd2 b (4*i+1) 16)|||Kd2 b (4*i+2) 8)|||UInt32.ofNat (UInt8.toNat (List.getD b (4*i+3) 0))
def Jxx(b:List UInt8)(i:Nat)(w:List UInt32):List UInt32:=w.set i (word b i)
def Jxy(i:Nat)(w:List UInt32):List UInt32:=
 w.set i (((w.getD (i - 16) 0+((Jfj (w.getD (i - 15) 0) 7^^^Jfj (w.getD (i - 15) 0) 18)^^^shr (w.getD (i - 15) 0) 3))+w.getD (i - 7) 0)+((Jfj (w.getD (i - 2) 0) 17^^^Jfj (w.getD (i - 2) 0) 19)^^^shr (w.getD (i - 2) 0) 10))
def Jj1(b:List UInt8):List UInt32:=J9s Jxy 16 48 (J9s (Jxx b) 0 16 (List.replicate 64 0))
abbrev W8:=UInt32×UInt32×UInt32×UInt32×UInt32×UInt32×UInt32×UInt32
def Jbj(k w:List UInt32)(i:Nat)(s:W8):W8:=
 match s with
 |(a,b,c,d,e,f,g,h)=>
  let one:=(((h+((Jfj e 6^^^Jfj e 11)^^^Jfj e 25))+((e&&& f)^^^((~~~e)&&& g)))+k.getD i 0)+w.getD i 0
  (one+(((Jfj a 2^^^Jfj a 13)^^^Jfj a 22)+(((a&&& b)^^^(a&&& c))^^^(b&&& c))),a,b,c,d+one,e,f,g)
def K13(s:W8):List UInt32:=[s.1,s.2.1,s.2.2.1,s.2.2.2.1,s.2.2.2.2.1,s.2.2.2.2.2.1,s.2.2.2.2.2.2.1,s.2.2.2.2.2.2.2]
def tup8(h:List UInt32):W8:=(h.getD 0 0,h.getD 1 0,h.getD 2 0,h.getD 3 0,h.getD 4 0,h.getD 5 0,h.getD 6 0,h.getD 7 0)
def addS(v:List UInt32)(i:Nat)(h:List UInt32):List UInt32:=h.set i (h.getD i 0+v.getD i 0)
def K4s(k:List UInt32)(b:List UInt8)(h:List UInt32):List UInt32:=
 J9s (addS (K13 (J9s (Jbj k (Jj1 b)) 0 64 (tup8 h)))) 0 8 h
def kS:List UInt32:=[1116352408,1899447441,3049323471,3921009573,961987163,1508970993,2453635748,2870763221,3624381080,310598401,607225278,1426881987,1925078388,2162078206,2614888103,3248222580,3835390401,4022224774,264347078,604807628,770255983,1249150122,1555081692,1996064986,2554220882,2821834349,2952996808,3210313671,3336571891,3584528711,113926993,338241895,666307205,773529912,1294757372,1396182291,1695183700,1986661051,2177026350,2456956037,2730485921,2820302411,3259730800,3345764771,3516065817,3600352804,4094571909,275423344,430227734,506948616,659060556,883997877,958139571,1322822218,1537002063,1747873779,1955562222,2024104815,2227730452,2361852424,2428436474,2756734187,3204031479,3329325298]
def h0S:List UInt32:=[1779033703,3144134277,1013904242,2773480762,1359893119,2600822924,528734635,1541459225]
def Jf0(n:UInt64)(i:Nat):UInt8:=UInt8.ofNat (UInt64.toNat (UInt64.ofNat (UInt64.toNat n>>>(8*i))))
def bitsOf(b:List UInt8):UInt64:=UInt64.ofNat b.length*8
def Kbt(b:List UInt8):List UInt8:=
 b++128::(List.replicate ((b.length+8) / 64*64+55 - b.length) 0++[Jf0 (bitsOf b) 7,Jf0 (bitsOf b) 6,Jf0 (bitsOf b) 5,Jf0 (bitsOf b) 4,Jf0 (bitsOf b) 3,Jf0 (bitsOf b) 2,Jf0 (bitsOf b) 1,Jf0 (bitsOf b) 0])
def Jfp:Nat->List UInt8->List UInt32->List UInt32
 |0,_,h=>h
 |n+1,l,h=>Jfp n (l.drop 64) (K4s kS (l.take 64) h)
def K24(x:UInt32)(j:Nat):UInt8:=UInt8.ofNat (UInt32.toNat (UInt32.ofNat (UInt32.toNat x>>>(24 - 8*j))))
def outS(h:List UInt32):List UInt8:=h.flatMap λx=>[K24 x 0,K24 x 1,K24 x 2,K24 x 3]
def sha(b:List UInt8):List UInt8:=outS (Jfp ((b.length+8) / 64+1) (Kbt b) h0S)
theorem right7 x:J1i x 7=some (Jfj x 7):=rfl
theorem Kf0 x:J1i x 18=some (Jfj x 18):=rfl
theorem Kez x:J1i x 17=some (Jfj x 17):=rfl
theorem Kf1 x:J1i x 19=some (Jfj x 19):=rfl
theorem right6 x:J1i x 6=some (Jfj x 6):=rfl
theorem Kew x:J1i x 11=some (Jfj x 11):=rfl
theorem Kf3 x:J1i x 25=some (Jfj x 25):=rfl
theorem right2 x:J1i x 2=some (Jfj x 2):=rfl
theorem Kex x:J1i x 13=some (Jfj x 13):=rfl
theorem Kf2 x:J1i x 22=some (Jfj x 22):=rfl
theorem Jvi(b:List UInt8)(hb:b.length=64) z w {i:Nat} (hi:i<16):
  J11_1_step b (i:Int) z w=some (.inl (((i+1:Nat):Int),Jxx b i w)):=by
 unfold J11_1_step
 have e0:Int.toNat (4*(i:Int))=4*i:=by omega
 have e1:Int.toNat (4*(i:Int)+1)=4*i+1:=by omega
 have e2:Int.toNat (4*(i:Int)+2)=4*i+2:=by omega
 have e3:Int.toNat (4*(i:Int)+3)=4*i+3:=by omega
 simp (disch:=omega)only[J8w,J9t,J8i,hb,e0,e1,e2,e3,Int.toNat_natCast]
 rfl
theorem Kak(b:List UInt8)(hb:b.length=64) z:J11_1 b 0 z z=some (z,J9s (Jxx b) 0 16 z):=by
 refine J8u (λi w=>((i:Int),w)) (Jxx b) (λw=>(z,w)) 16 (λ_ _=>True) (λi w hi _=>⟨Jvi b hb z w hi,trivial⟩) (λw _=> ?_) 16 0 z rfl trivial
 rfl
theorem Jvj z w {i:Nat} (h1:16<=i) (hi:i<64):
  J11_2_step (i:Int) z w=some (.inl (((i+1:Nat):Int),Jxy i w)):=by
 unfold J11_2_step
 have e0:Int.toNat ((i:Int) - 15)=i - 15:=by omega
 have e1:Int.toNat ((i:Int) - 2)=i - 2:=by omega
 have e2:Int.toNat ((i:Int) - 16)=i - 16:=by omega
 have e3:Int.toNat ((i:Int) - 7)=i - 7:=by omega
 simp (disch:=omega)only[J8w,J9t,J8i,e0,e1,e2,e3,Int.toNat_natCast,right7,Kf0,Kez,Kf1,J8f]
 rfl
theorem Kal z w:J11_2 16 z w=some (z,J9s Jxy 16 48 w):=by
 refine J8u (λi w=>((i:Int),w)) Jxy (λw=>(z,w)) 64 (λi _=>16<=i) (λi w hi h=>⟨Jvj z w h hi,by omega⟩) (λw _=> ?_) 48 16 w rfl (Nat.le_refl _)
 rfl
theorem K6l(b:List UInt8)(hb:b.length=64):J11 b=some (Jj1 b):=by
 unfold J11
 rw[Kak b hb,J8f,Kal,J8f,Jj1]
theorem K4r k w hz (s:W8) {i:Nat} (hi:i<64):
  J0m_1_step s.1 s.2.1 s.2.2.1 s.2.2.2.1 s.2.2.2.2.1 s.2.2.2.2.2.1 s.2.2.2.2.2.2.1 s.2.2.2.2.2.2.2 (i:Int) hz k w=
   some (.inl ((Jbj k w i s).1,(Jbj k w i s).2.1,(Jbj k w i s).2.2.1,(Jbj k w i s).2.2.2.1,(Jbj k w i s).2.2.2.2.1,(Jbj k w i s).2.2.2.2.2.1,(Jbj k w i s).2.2.2.2.2.2.1,(Jbj k w i s).2.2.2.2.2.2.2,((i+1:Nat):Int))):=by
 unfold J0m_1_step
 simp (disch:=omega)only[J8w,J9t,J8i,Int.toNat_natCast,right6,Kew,Kf3,right2,Kex,Kf2,J8f]
 rfl
theorem mix_1 k w hz (s:W8):J0m_1 s.1 s.2.1 s.2.2.1 s.2.2.2.1 s.2.2.2.2.1 s.2.2.2.2.2.1 s.2.2.2.2.2.2.1 s.2.2.2.2.2.2.2 0 hz k w=
   some ((J9s (Jbj k w) 0 64 s).1,(J9s (Jbj k w) 0 64 s).2.1,(J9s (Jbj k w) 0 64 s).2.2.1,(J9s (Jbj k w) 0 64 s).2.2.2.1,(J9s (Jbj k w) 0 64 s).2.2.2.2.1,(J9s (Jbj k w) 0 64 s).2.2.2.2.2.1,(J9s (Jbj k w) 0 64 s).2.2.2.2.2.2.1,(J9s (Jbj k w) 0 64 s).2.2.2.2.2.2.2,hz,k):=by
 refine J8u (λi (s:W8)=>(s.1,s.2.1,s.2.2.1,s.2.2.2.1,s.2.2.2.2.1,s.2.2.2.2.2.1,s.2.2.2.2.2.2.1,s.2.2.2.2.2.2.2,(i:Int))) (Jbj k w)
  (λ(s:W8)=>(s.1,s.2.1,s.2.2.1,s.2.2.2.1,s.2.2.2.2.1,s.2.2.2.2.2.1,s.2.2.2.2.2.2.1,s.2.2.2.2.2.2.2,hz,k)) 64 (λ_ _=>True) (λi s hi _=>⟨K4r k w hz s hi,trivial⟩) (λs _=> ?_) 64 0 s rfl trivial
 rfl
theorem mix_2 v h k:J0m_2 v 0 h k=some (J9s (addS v) 0 8 h,k):=by
 refine J8u (λi w=>((i:Int),w)) (addS v) (λw=>(w,k)) 8 (λ_ _=>True) (λi w hi _=>⟨?_,trivial⟩) (λw _=> ?_) 8 0 h rfl trivial
 ·unfold J0m_2_step
  simp (disch:=omega)only[J8w,J9t,J8i,Int.toNat_natCast]
  rfl
 ·rfl
theorem mix_eq(b:List UInt8)(hb:b.length=64) h k:J0m b h k=some (K4s k b h,k):=by
 unfold J0m
 rw[K6l b hb,J8f]
 have:=mix_1 k (Jj1 b) h (tup8 h)
 simp only[tup8]at this
 rw[show(Int.toNat (0:Int))=0 from rfl,show(Int.toNat (1:Int))=1 from rfl,show(Int.toNat (2:Int))=2 from rfl,show(Int.toNat (3:Int))=3 from rfl,show(Int.toNat (4:Int))=4 from rfl,
  show(Int.toNat (5:Int))=5 from rfl,show(Int.toNat (6:Int))=6 from rfl,show(Int.toNat (7:Int))=7 from rfl,this,J8f,mix_2,J8f]
 rfl
set_option maxRecDepth 100000
theorem K2w(n:Nat)(h:n<=1073741824):J7s (n:Int)=some (((n+8) / 64+1:Nat):Int):=by
 unfold J7s
 have e:Int.tdiv ((n:Int)+8) 64=(((n+8) / 64:Nat):Int):=by
  rfl
 simp (disch:=omega)only[J9t,e]
 rfl
theorem Jxu(a l:List α)(k:Nat) x:(a++l).set (a.length+k) x=a++l.set k x:=by
 grind
theorem Jxg x0 (n:Nat) (hn:8<=n) (hn2:n<=2147483648) (l:List UInt8) (hl:l.length=n):J3v_1 x0 0 l=some (J9s (λi (w:List UInt8)=>w.set (n - 1 - i) (Jf0 x0 i)) 0 8 l):=by
 refine J8u (λi w=>((i:Int),w)) (λi (w:List UInt8)=>w.set (n - 1 - i) (Jf0 x0 i)) (λw=>w) 8 (λ_ w=>w.length=n) (λi w hi hw=>⟨?_,by simp[hw]⟩) (λw _=> ?_) 8 0 l rfl hl
 ·unfold J3v_1_step
  have e0:Int.toNat ((n:Int) - 1 - (i:Int))=n - 1 - i:=by omega
  have e1:Int.toNat (8*(i:Int))=8*i:=by omega
  simp (disch:=omega)only[J8w,J9t,J8i,hw,e0,e1]
  rfl
 ·rfl
theorem K5a(b:List UInt8)(hb:b.length<=1073741824):J3v b=some (Kbt b):=by
 unfold J3v
 rw[K2w _ hb,J8f]
 have hN:w64 ((((b.length+8) / 64+1:Nat):Int)*64)=(((b.length+8) / 64*64+64:Nat):Int):=by
  rw[oW];omega
 generalize hn:(b.length+8) / 64*64+64=n at hN
 rw[hN,oN,Int.toNat_natCast,List.length_replicate,List.take_of_length_le (by omega),List.drop_replicate]
 have hz:n - b.length=((b.length+8) / 64*64+55 - b.length)+1+8:=by omega
 have hl:(b++List.replicate (n - b.length) (0:UInt8)).length=n:=by simp;omega
 rw[hl,oN,Int.toNat_natCast]
 have hbits:UInt64.ofNat (Int.toNat ((b.length:Int)%18446744073709551616))*8=bitsOf b:=by
  unfold bitsOf;congr 2;omega
 rw[hbits,Jxg (bitsOf b) n (by omega) (by omega) _ (by rw[List.length_set,hl]),J8f]
 congr 1
 have h1:(b++List.replicate (n - b.length) (0:UInt8)).set b.length 128=(b++128::List.replicate ((b.length+8) / 64*64+55 - b.length) 0)++[0,0,0,0,0,0,0,0]:=by
  rw[hz]
  generalize (b.length+8) / 64*64+55 - b.length=z
  have h:=Jxu b (List.replicate ((z+8)+1) (0:UInt8)) 0 128
  rw[Nat.add_zero b.length]at h
  rw[h,List.replicate_succ,List.set_cons_zero,<-List.replicate_append_replicate,List.append_assoc]
  rfl
 rw[h1]
 have hA:(b++128::List.replicate ((b.length+8) / 64*64+55 - b.length) (0:UInt8)).length=n - 8:=by simp;omega
 generalize hA2:(b++128::List.replicate ((b.length+8) / 64*64+55 - b.length) (0:UInt8))=A at hA
 have ix:∀i,i<8->n - 1 - i=A.length+(7 - i):=by intro i hi;omega
 simp only[J9s]
 rw[ix 0 (by omega),ix (0+1) (by omega),ix (0+1+1) (by omega),ix (0+1+1+1) (by omega),ix (0+1+1+1+1) (by omega),ix (0+1+1+1+1+1) (by omega)]
 simp only[Jxu]
 unfold Kbt
 grind
theorem Jxf(b:List UInt8):(Kbt b).length=64*((b.length+8) / 64+1):=by
 unfold Kbt
 simp
 omega
theorem Jqs{f:Nat->List α->List α}(h:∀i w,(f i w).length=w.length):∀(k i:Nat) (w:List α),(J9s f i k w).length=w.length
 |0,_,_=>rfl
 |k+1,i,w=>by rw[J9s,Jqs h k,h]
theorem Jzj k (b:List UInt8) (h:List UInt32):(K4s k b h).length=h.length:=Jqs (λi w=>by simp[addS]) _ _ _
theorem Jfq:∀(n:Nat) (l:List UInt8) (h:List UInt32),(Jfp n l h).length=h.length
 |0,_,_=>rfl
 |n+1,l,h=>by rw[Jfp,Jfq n,Jzj]
theorem sum_1 out:∀(n:Nat) (l:List UInt8),l.length=64*n->l.length<=2147483648->∀h,J12_1 l out h kS=some (out,Jfp n l h)
 |0,l,hl,_,h=>by
  unfold J12_1
  refine J9d ?_
  show J8g (decide ((0:Int)<(l.length:Int))) _ _=_
  rw[oF];rfl
 | n+1,l,hl,hl2,h=>by
  have hm:=mix_eq (l.take 64) (by rw[List.length_take];omega) h kS
  have hs:J12_1_step l out h kS=some (.inl (l.drop 64,K4s kS (l.take 64) h,kS)):=by
   unfold J12_1_step
   rw[oT,oN,show Ja1 l (0:Int) (64:Int)=l.take 64 from rfl,hm,J8f,oN]
   have:Ja1 l (64:Int) (l.length:Int)=l.drop 64:=by
    unfold Ja1;rw[Int.toNat_natCast,List.take_of_length_le (Nat.le_refl _)];rfl
   rw[this]
  have ih:=sum_1 out n (l.drop 64) (by rw[List.length_drop];omega) (by rw[List.length_drop];omega) (K4s kS (l.take 64) h)
  unfold J12_1 at ih⊢
  rw[J9v (s':=(l.drop 64,K4s kS (l.take 64) h,kS)) hs,ih]
  rfl
def Jut(x:UInt32)(i:Nat)(acc:List UInt8):List UInt8:=J9s (λj (acc:List UInt8)=>acc.set (4*i+j) (K24 x j)) 0 4 acc
theorem sum_2 x h z acc {i:Nat} (hi:i<8):J12_2 (i:Int) x h (i:Int) 0 z acc=some (h,(i:Int),z,Jut x i acc):=by
 refine J8u (λj acc=>((j:Int),acc)) (λj (acc:List UInt8)=>acc.set (4*i+j) (K24 x j)) (λacc=>(h,(i:Int),z,acc)) 4 (λ_ _=>True) (λj acc hj _=>⟨?_,trivial⟩) (λacc _=> ?_) 4 0 acc rfl trivial
 ·unfold J12_2_step
  have e0:Int.toNat (4*(i:Int)+(j:Int))=4*i+j:=by omega
  have e1:Int.toNat (24 - 8*(j:Int))=24 - 8*j:=by omega
  simp (disch:=omega)only[J8w,J9t,J8i,e0,e1]
  rfl
 ·rfl
theorem sum_3(h:List UInt32) z acc:J12_3 h 0 z acc=some (z,J9s (λi acc=>Jut (h.getD i 0) i acc) 0 8 acc):=by
 refine J8u (λi acc=>(h,(i:Int),z,acc)) (λi acc=>Jut (h.getD i 0) i acc) (λacc=>(z,acc)) 8 (λ_ _=>True) (λi acc hi _=>⟨?_,trivial⟩) (λacc _=> ?_) 8 0 acc rfl trivial
 ·show J12_3_step h (i:Int) z acc=_
  unfold J12_3_step
  rw[oT,oN,sum_2 _ _ _ _ hi,J8f]
  rw[J9t (by show(-9223372036854775808:Int)<=(i:Int)+1;omega) (by show(i:Int)+1<=9223372036854775807;omega)]
  rfl
 ·rfl
theorem Kee a b c d e f g i:J9s (λj acc=>Jut (List.getD [a,b,c,d,e,f,g,i] j 0) j acc) 0 8 (List.replicate 32 (0:UInt8))=outS [a,b,c,d,e,f,g,i]:=by kernel_rfl
theorem out_eq(h:List UInt32)(hh:h.length=8):J9s (λi acc=>Jut (h.getD i 0) i acc) 0 8 (List.replicate 32 (0:UInt8))=outS h:=by
 match h,hh with
 |[a,b,c,d,e,f,g,i],_=>exact Kee a b c d e f g i
theorem K8u:J83=some h0S:=by kernel_rfl
theorem K7s:J82=some kS:=by kernel_rfl
theorem sum_eq(b:List UInt8)(hb:b.length<=1073741824):J12 b=some (sha b):=by
 unfold J12
 rw[K8u,J8f,K7s,J8f,K5a b hb,J8f,sum_1 _ _ _ (Jxf b) (by rw[Jxf];omega)]
 simp only[sum_3,J8f]
 rw[out_eq _ (by rw[Jfq];rfl)]
 rfl
theorem Ja8 b:(sha b).length=32:=by
 unfold sha outS
 have:(Jfp ((b.length+8) / 64+1) (Kbt b) h0S).length=8:=by rw[Jfq];rfl
 generalize Jfp ((b.length+8) / 64+1) (Kbt b) h0S=h at this
 match h,this with
 |[a,b,c,d,e,f,g,i],_=>rfl
theorem getD_take(l:List (List α))(h:i<l.length):(l.take i).flatten++l.getD i []=(l.take (i+1)).flatten:=by
 rw[List.take_add_one,List.flatten_append,List.getD_eq_getElem?_getD,List.getElem?_eq_getElem h]
 simp
theorem Jem(l:List (List α))(i:Nat):((l.take i).flatten).length<=l.flatten.length:=by
 conv=>rhs;rw[<-List.take_append_drop i l]
 rw[List.flatten_append,List.length_append];omega
theorem Jb5 t (l:List (List UInt8)) (h:l.flatten.length<=1073741823) (hl:l.length<=1073741823):J0c t l=some (sha (t::l.flatten)):=by
 unfold J0c
 have:∀z,J0c_1 l (l.length:Int) 0 z [t]=some (z,t::l.flatten):=by
  intro z
  unfold J0c_1
  have:=J8u (step:=λ(s:Int×List UInt8)=>J0c_1_step l (l.length:Int) s.1 z s.2) (λi (_:Unit)=>((i:Int),t::(l.take i).flatten)) (λ_ _=>()) (λ_=>(z,t::l.flatten)) l.length (λ_ _=>True) (λi w hi _=>⟨?_,trivial⟩) (λw _=> ?_) l.length 0 () (by omega) trivial
  ·exact this
  ·unfold J0c_1_step
   have e:=getD_take l hi
   have le:=Jem l (i+1)
   rw[<-e,List.length_append]at le
   simp (disch:=omega)only[J8w,J9t,J8i,Int.toNat_natCast]
   rw[J8i (by rw[List.length_cons];omega),List.cons_append,e]
   rfl
  ·unfold J0c_1_step
   rw[oF,List.take_of_length_le (Nat.le_refl _)]
 rw[this,J8f]
 simp only[]
 rw[sum_eq _ (by rw[List.length_cons];omega),J8f]
set_option maxRecDepth 100000
theorem Jbs(x:UInt32)(n:Nat):UInt32.ofNat (x.toNat>>>n)|||UInt32.ofNat (x.toNat<<<(32 - n))=Jfj x n:=UInt32.or_comm _ _
theorem turn7 x:J05 x 7=some (Jfj x 7):=congrArg some (Jbs x 7)
theorem turn18 x:J05 x 18=some (Jfj x 18):=congrArg some (Jbs x 18)
theorem turn17 x:J05 x 17=some (Jfj x 17):=congrArg some (Jbs x 17)
theorem turn19 x:J05 x 19=some (Jfj x 19):=congrArg some (Jbs x 19)
theorem turn6 x:J05 x 6=some (Jfj x 6):=congrArg some (Jbs x 6)
theorem turn11 x:J05 x 11=some (Jfj x 11):=congrArg some (Jbs x 11)
theorem turn25 x:J05 x 25=some (Jfj x 25):=congrArg some (Jbs x 25)
theorem turn2 x:J05 x 2=some (Jfj x 2):=congrArg some (Jbs x 2)
theorem turn13 x:J05 x 13=some (Jfj x 13):=congrArg some (Jbs x 13)
theorem turn22 x:J05 x 22=some (Jfj x 22):=congrArg some (Jbs x 22)
theorem K9w(b:List UInt8)(hb:b.length=64) k h v z:Jc_1 b k 0 h v z=some (k,h,v,J9s (Jxx b) 0 16 z):=by
 refine J8u (λi w=>((i:Int),w)) (Jxx b) (λw=>(k,h,v,w)) 16 (λ_ _=>True) (λi w hi _=>⟨?_,trivial⟩) (λw _=> ?_) 16 0 z rfl trivial
 ·unfold Jc_1_step
  have e0:Int.toNat (4*(i:Int))=4*i:=by omega
  have e1:Int.toNat (4*(i:Int)+1)=4*i+1:=by omega
  have e2:Int.toNat (4*(i:Int)+2)=4*i+2:=by omega
  have e3:Int.toNat (4*(i:Int)+3)=4*i+3:=by omega
  simp (disch:=omega)only[J8w,J9t,J8i,hb,e0,e1,e2,e3,Int.toNat_natCast]
  rfl
 ·rfl
theorem K9x k h v z:Jc_2 k 16 h v z=some (k,h,v,J9s Jxy 16 48 z):=by
 refine J8u (λi w=>((i:Int),w)) Jxy (λw=>(k,h,v,w)) 64 (λi _=>16<=i) (λi w hi hh=>⟨?_,by omega⟩) (λw _=> ?_) 48 16 z rfl (Nat.le_refl _)
 ·unfold Jc_2_step
  have e0:Int.toNat ((i:Int) - 15)=i - 15:=by omega
  have e1:Int.toNat ((i:Int) - 2)=i - 2:=by omega
  have e2:Int.toNat ((i:Int) - 16)=i - 16:=by omega
  have e3:Int.toNat ((i:Int) - 7)=i - 7:=by omega
  simp (disch:=omega)only[J8w,J9t,J8i,e0,e1,e2,e3,Int.toNat_natCast,turn7,turn18,turn17,turn19,J8f]
  rfl
 ·rfl
theorem K9y(k h v w:List UInt32)(hk:k.length=64) s:Jc_3 k 0 h v w (K13 s)=some (h,v,K13 (J9s (Jbj k w) 0 64 s)):=by
 refine J8u (λi (s:W8)=>((i:Int),K13 s)) (Jbj k w) (λs=>(h,v,K13 s)) 64 (λ_ _=>True) (λi s hi _=>⟨?_,trivial⟩) (λs _=> ?_) 64 0 s rfl trivial
 ·obtain⟨a,b,c,d,e,f,g,x⟩:=s
  unfold Jc_3_step
  simp (disch:=omega)only[J8w,J9t,J8i,hk,Int.toNat_natCast,turn6,turn11,turn25,turn2,turn13,turn22,J8f]
  rw[show Jbj k w i (a,b,c,d,e,f,g,x)=((((((x+((Jfj e 6^^^Jfj e 11)^^^Jfj e 25))+((e&&& f)^^^((~~~e)&&& g)))+k.getD i 0)+w.getD i 0)+((Jfj a 2^^^Jfj a 13)^^^Jfj a 22))+(((a&&& b)^^^(a&&& c))^^^(b&&& c)),a,b,c,
   d+((((x+((Jfj e 6^^^Jfj e 11)^^^Jfj e 25))+((e&&& f)^^^((~~~e)&&& g)))+k.getD i 0)+w.getD i 0),e,f,g)from by simp only[Jbj,UInt32.add_assoc]]
  rfl
 ·rfl
theorem K9z h z v:Jc_4 0 h z v=some (J9s (addS v) 0 8 h,z):=by
 refine J8u (λi w=>((i:Int),w)) (addS v) (λw=>(w,z)) 8 (λ_ _=>True) (λi w hi _=>⟨?_,trivial⟩) (λw _=> ?_) 8 0 h rfl trivial
 ·unfold Jc_4_step
  simp (disch:=omega)only[J8w,J9t,J8i,Int.toNat_natCast]
  rfl
 ·rfl
theorem K14(h:List UInt32)(hh:h.length=8):K13 (tup8 h)=h:=by
 match h,hh with
 |[a,b,c,d,e,f,g,i],_=>rfl
theorem K5o(h:List UInt32)(hh:h.length=8)(b:List UInt8)(hb:b.length=64)(k:List UInt32)(hk:k.length=64):Jc h b k=some (K4s k b h):=by
 unfold Jc
 simp only[K9w b hb,K9x,J8f]
 have h3:=K9y k h (List.replicate 8 0) (Jj1 b) hk (tup8 h)
 rw[K14 h hh]at h3
 rw[show J9s Jxy 16 48 (J9s (Jxx b) 0 16 (List.replicate 64 0))=Jj1 b from by rw[Jj1],h3,J8f]
 simp only[K9z,J8f]
 rw[K4s]
theorem Kca(n:Nat):Int.tmod (n:Int) 64=((n%64:Nat):Int):=by
 rfl
theorem rsum_1(b:List UInt8)(hb:b.length<=1073741824) out k h:
  Jd_1 b out k h (b++[128])=some (b,out,k,h,(b++[128])++List.replicate ((b.length+8) / 64*64+55 - b.length) 0):=by
 unfold Jd_1
 generalize hz:(b.length+8) / 64*64+55 - b.length=z
 have:=J8u (step:=λs=>Jd_1_step b out k h s) (λi (_:Unit)=>(b++[128])++List.replicate i (0:UInt8)) (λ_ _=>()) (λ_=>(b,out,k,h,(b++[128])++List.replicate z 0)) z (λ_ _=>True) (λi w hi _=>⟨?_,trivial⟩) (λw _=> ?_) z 0 () (by omega) trivial
 ·simpa using this
 ·unfold Jd_1_step
  rw[Kca,Jd9 (by simp;omega),J8i (by simp;omega),List.append_assoc,List.append_assoc,List.append_assoc,<-List.replicate_succ']
 ·unfold Jd_1_step
  rw[Kca,Jcq (by simp;omega)]
theorem K1y{j:Nat}(h:j<8):(UInt64.ofNat (Int.toNat ((8*((7:Int) - (j:Int)))%18446744073709551616))).toNat=8*(7 - j):=by
 have:Int.toNat ((8*((7:Int) - (j:Int)))%18446744073709551616)=8*(7 - j):=by omega
 rw[UInt64.toNat_ofNat'];omega
theorem rsum_2(b:List UInt8)(hb:b.length<=1073741824)(out m:List UInt8)(hm:m.length<=1073741924) k h:
  Jd_2 b 7 out k h m=some (out,k,h,J9s (λj (l:List UInt8)=>l++[Jf0 (bitsOf b) (7 - j)]) 0 8 m):=by
 refine J8u (step:=λ(s:Int×List UInt8)=>Jd_2_step b s.1 out k h s.2) (λj l=>((7:Int) - (j:Int),l)) (λj (l:List UInt8)=>l++[Jf0 (bitsOf b) (7 - j)]) (λl=>(out,k,h,l)) 8 (λj l=>l.length=m.length+j) (λj l hj hl=>⟨?_,by simp[hl];omega⟩) (λl _=> ?_) 8 0 m rfl rfl
 ·unfold Jd_2_step
  have hbits:UInt64.ofNat (Int.toNat ((8*(b.length:Int))%18446744073709551616))=bitsOf b:=by
   rw[show Int.toNat ((8*(b.length:Int))%18446744073709551616)=b.length*8 from by omega,UInt64.ofNat_mul];rfl
  simp (disch:=omega)only[J8w,J9t,hbits]
  rw[oN,J8i (by simp;omega),K1y hj,Int.toNat_natCast]
  rw[show(7:Int) - (j:Int) - 1=7 - ((j+1:Nat):Int)from by omega]
  rfl
 ·rfl
theorem Kf9(l out:List UInt8)(n:Nat)(hl:l.length=64*n)(hn:64*n<=2147483648)(h:List UInt32)(hh:h.length=8):
  Jd_3 l 0 out kS h=some (out,J9s (λj h=>K4s kS ((l.drop (64*j)).take 64) h) 0 n h):=by
 refine J8u (step:=λ(s:Int×List UInt32)=>Jd_3_step l s.1 out kS s.2) (λj h=>(((64*j:Nat):Int),h)) (λj h=>K4s kS ((l.drop (64*j)).take 64) h) (λh=>(out,h)) n (λj h=>h.length=8) (λj h hj hh=>⟨?_,by rw[Jzj,hh]⟩) (λl _=> ?_) n 0 h (by omega) hh
 ·unfold Jd_3_step
  have hc:Ja1 l ((64*j:Nat):Int) (((64*j:Nat):Int)+64)=(l.drop (64*j)).take 64:=by
   unfold Ja1
   rw[Int.toNat_natCast,List.drop_take]
   congr 1;omega
  simp (disch:=omega)only[J8w,J9t,J8i,hc]
  rw[K5o h hh _ (by rw[List.length_take,List.length_drop];omega) _ rfl,J8f]
  rfl
 ·unfold Jd_3_step
  rw[oF]
theorem Jmz(l:List UInt8):∀(n j:Nat) (h:List UInt32),J9s (λj h=>K4s kS ((l.drop (64*j)).take 64) h) j n h=Jfp n (l.drop (64*j)) h
 |0,_,_=>rfl
 |n+1,j,h=>by
  rw[J9s,Jmz l n (j+1),Jfp,List.drop_drop]
  rfl
def Jod(x:UInt32)(i:Nat)(acc:List UInt8):List UInt8:=(((acc.set (4*i) (K24 x 0)).set (4*i+1) (K24 x 1)).set (4*i+2) (K24 x 2)).set (4*i+3) (K24 x 3)
theorem rsum_4(h:List UInt32) z acc:Jd_4 h 0 z acc=some (z,J9s (λi acc=>Jod (h.getD i 0) i acc) 0 8 acc):=by
 refine J8u (step:=λ(s:Int×List UInt8)=>Jd_4_step h s.1 z s.2) (λi acc=>((i:Int),acc)) (λi acc=>Jod (h.getD i 0) i acc) (λacc=>(z,acc)) 8 (λ_ _=>True) (λi acc hi _=>⟨?_,trivial⟩) (λacc _=> ?_) 8 0 acc rfl trivial
 ·unfold Jd_4_step
  have e0:Int.toNat (4*(i:Int))=4*i:=by omega
  have e1:Int.toNat (4*(i:Int)+1)=4*i+1:=by omega
  have e2:Int.toNat (4*(i:Int)+2)=4*i+2:=by omega
  have e3:Int.toNat (4*(i:Int)+3)=4*i+3:=by omega
  have hx:∀x:UInt32,K24 x 3=UInt8.ofNat x.toNat:=by intro x;simp[K24]
  simp (disch:=omega)only[J8w,J9t,J8i,e0,e1,e2,e3,Int.toNat_natCast]
  rw[Jod,hx]
  rfl
 ·rfl
theorem Ka9 a b c d e f g i:J9s (λj acc=>Jod (List.getD [a,b,c,d,e,f,g,i] j 0) j acc) 0 8 (List.replicate 32 (0:UInt8))=outS [a,b,c,d,e,f,g,i]:=by kernel_rfl
theorem Kf6(h:List UInt32)(hh:h.length=8):J9s (λi acc=>Jod (h.getD i 0) i acc) 0 8 (List.replicate 32 (0:UInt8))=outS h:=by
 match h,hh with
 |[a,b,c,d,e,f,g,i],_=>exact Ka9 a b c d e f g i
theorem K84:J63=some kS:=by kernel_rfl
theorem Kf8(b:List UInt8):J9s (λj (l:List UInt8)=>l++[Jf0 (bitsOf b) (7 - j)]) 0 8 ((b++[128])++List.replicate ((b.length+8) / 64*64+55 - b.length) 0)=Kbt b:=by
 simp only[J9s,List.append_assoc]
 rfl
theorem Kfa(b:List UInt8)(hb:b.length<=1073741824):Jd b=some (sha b):=by
 unfold Jd
 have h0:(List.set (List.set (List.set (List.set (List.set (List.set (List.set (List.set (List.replicate 8 (0:UInt32)) 0 (1779033703:UInt32)) 1 (3144134277:UInt32)) 2 (1013904242:UInt32)) 3 (2773480762:UInt32)) 4 (1359893119:UInt32)) 5 (2600822924:UInt32)) 6 (528734635:UInt32)) 7 (1541459225:UInt32))=h0S:=by kernel_rfl
 rw[K84,J8f,J8i (by simp;omega),J8i (by simp;omega),h0,List.nil_append,rsum_1 b hb]
 simp only[rsum_2 b hb _ _ (show((b++[128])++List.replicate ((b.length+8) / 64*64+55 - b.length) (0:UInt8)).length<=1073741924 by simp;omega),J8f,Kf8]
 rw[Kf9 _ _ ((b.length+8) / 64+1) (Jxf b) (by omega) _ rfl,J8f,Jmz]
 simp only[rsum_4,J8f]
 rw[Kf6 _ (by rw[Jfq];rfl)]
 rfl
theorem Ja3 t (l:List (List UInt8)) (h:l.flatten.length<=1073741823) (hl:l.length<=1073741823):Jb t l=some (sha (t::l.flatten)):=by
 unfold Jb
 have:∀z,Jb_1 l (l.length:Int) 0 z [t]=some (z,t::l.flatten):=by
  intro z
  have:=J8u (step:=λ(s:Int×List UInt8)=>Jb_1_step l (l.length:Int) s.1 z s.2) (λi (_:Unit)=>((i:Int),t::(l.take i).flatten)) (λ_ _=>()) (λ_=>(z,t::l.flatten)) l.length (λ_ _=>True) (λi w hi _=>⟨?_,trivial⟩) (λw _=> ?_) l.length 0 () (by omega) trivial
  ·exact this
  ·unfold Jb_1_step
   have e:=getD_take l hi
   have le:=Jem l (i+1)
   rw[<-e,List.length_append]at le
   simp (disch:=omega)only[J8w,J9t,J8i,Int.toNat_natCast]
   rw[J8i (by rw[List.length_cons];omega),List.cons_append,e]
   rfl
  ·unfold Jb_1_step
   rw[oF,List.take_of_length_le (Nat.le_refl _)]
 rw[this,J8f]
 rw[Kfa _ (by rw[List.length_cons];omega),J8f]
theorem Jvb:∀(f k n:Nat),n<128^(f+1)->f<k->f<=100->n<=1099511627775->Jl_f k (n:Int)=some (K3 f n)
 |f,0,n,h,hk,hf,hn=>by omega
 | f,k+1,n,h,hk,hf,hn=>by
  rw[Jl_f,oF,oF]
  by_cases h1:n<128
  ·rw[oT,Jqk h1 f,Jcg]
  ·rw[oF]
   cases f with
   |zero=>simp at h;omega
   | succ f=>
    have hd:n / 128<128^(f+1):=by
     omega
    rw[show Int.toNat 7=7 from rfl,Jzb n 7 (by omega),Jvb f k (n / 128) hd (by omega) (by omega) (by omega),J8f,K2k n (by omega),Kb9 _ (by omega),Jcg]
    have:=Jsg f (n / 128)
    rw[J8i (by simp;omega),K3,if_neg h1];rfl
theorem Jex(n:Int):Jl n=some (Jev n):=by
 unfold Jl Jev
 by_cases h0:n<0
 ·rw[Jl_f,J8w h0,oJ]
 ·by_cases h1:1099511627775<n
  ·rw[Jl_f,J90 h0,J8w h1,oJ]
  ·rw[oI]
   obtain⟨k,rfl⟩:=Int.eq_ofNat_of_zero_le (show 0<=n by omega)
   exact Jvb 6 64 k (by omega) (by omega) (by omega) (by omega)
theorem Jxm(l:List (List UInt8))(hl:l.length<=1000)(hh:∀x∈l,x.length=32)(acc:List UInt8)(ha:acc.length<=1000):J04_1 (l.length:Int) 0 acc l=some (acc++l.flatten):=by
 have hlen:∀i,((l.take i).flatten).length<=32*l.length:=by
  intro i
  have:∀(m:List (List UInt8)),(∀x∈m,x.length=32)->m.flatten.length=32*m.length:=by
   intro m
   induction m with
   |nil=>intro _;rfl
   |cons a m ih=>intro hm;rw[List.flatten_cons,List.length_append,ih (λx hx=>hm x (List.mem_cons_of_mem _ hx)),hm a List.mem_cons_self,List.length_cons];omega
  rw[this _ λx hx=>hh x (List.mem_of_mem_take hx),List.length_take];omega
 unfold J04_1
 have:=J8u (step:=λ(s:Int×List UInt8)=>J04_1_step (l.length:Int) s.1 s.2 l) (λi (_:Unit)=>((i:Int),acc++(l.take i).flatten)) (λ_ _=>()) (λ_=>acc++l.flatten) l.length (λ_ _=>True) (λi w hi _=>⟨?_,trivial⟩) (λw _=> ?_) l.length 0 () (by omega) trivial
 ·simpa using this
 ·unfold J04_1_step
  have b:=hlen i
  have hm:(l.getD i (List.replicate 32 0)).length=32:=hh _ (by rw[List.getD_eq_getElem?_getD,List.getElem?_eq_getElem hi];exact List.getElem_mem _)
  have e:=Jf4 (λx:List UInt8=>x) l (List.replicate 32 0) hi
  simp at e
  rw[oT,oN,Int.toNat_natCast,J8i (by rw[List.length_append];omega),oW,List.append_assoc,e]
  rfl
 ·unfold J04_1_step
  rw[oF,List.take_of_length_le (Nat.le_refl _)]
theorem K5q h (hh:Jb3 h):J04 h=some (Jgr h):=by
 obtain⟨a,b,c,d⟩:=hh
 have l1:=J9o h.1
 have l2:=J9o h.2.1
 unfold J04
 rw[Jex,J8f,Jex,J8f,oN,Jxm _ (by simp) (by
   intro x hx
   simp at hx
   rcases hx with rfl|rfl|rfl|rfl<;>assumption) _ (by rw[List.length_append];omega),J8f]
 simp[Jgr]
theorem Jis h (hh:Jb3 h):J7d h=some (sha (72::Jf1 h)):=by
 have hl:(Jf1 h).length<=142:=by
  unfold Jf1;split
  ·exact Jyf h hh
  ·simp
 unfold J7d
 have hf:[Jf1 h].flatten=Jf1 h:=by simp
 rw[K7z h hh,J8f,Jb5 _ _ (by rw[hf];omega) (by simp),hf]
 rfl
theorem Jek h (hh:Jb3 h):J1h h=some (sha (72::Jgr h)):=by
 have hl:=Jyf h hh
 unfold J1h
 have hf:[Jgr h].flatten=Jgr h:=by simp
 rw[K5q h hh,J8f,Ja3 _ _ (by rw[hf];omega) (by simp),hf]
 rfl
abbrev Val:=List UInt8×Int×List UInt8×Unit
def Jc8:Val:=(([]:List UInt8),(0:Int),(List.replicate 32 (0:UInt8)),())
theorem Jta:((([]:List UInt8),(0:Int),(List.replicate 32 (0:UInt8)),()):Val)=Jc8:=rfl
theorem K92(l:List (List UInt8)) x (hl:l.length<=1073741824):J34 l x=some (l.contains x):=by
 have h:J00_1 l x (l.length:Int) 0=some (scan (λi=>if x=l.getD i []then some (.inl (i:Int))else none) (.inr ()) 0 l.length):=by
  refine Jca (step:=λ(s:Int)=>J00_1_step l x (l.length:Int) s) (λi=>(i:Int)) _ _ l.length (λi hi h=> ?_) (λi r hi h=> ?_) ?_ l.length 0 (by omega)
  ·unfold J00_1_step
   simp (disch:=omega)only[J8w,J9t,J8i,Int.toNat_natCast]
   by_cases e:x=l.getD i []
   ·rw[if_pos e]at h;cases h
   ·rw[J90 e];rfl
  ·unfold J00_1_step
   simp (disch:=omega)only[J8w,J9t,J8i,Int.toNat_natCast]
   by_cases e:x=l.getD i []
   ·rw[if_pos e]at h;rw[J8w e];injection h with h;subst h;rfl
   ·rw[if_neg e]at h;cases h
  ·unfold J00_1_step
   rw[oF]
 unfold J34 J00
 rw[h,J8f]
 by_cases hx:x∈l
 ·have hm:∃j,j<l.length/\x=l.getD j []:=by
   obtain⟨j,hj,e⟩:=List.getElem_of_mem hx
   exact⟨j,hj,by rw[List.getD_eq_getElem?_getD,List.getElem?_eq_getElem hj];exact e.symm⟩
  obtain⟨j,hj⟩:=Nat.find_of (p:=λj=>j<l.length/\x=l.getD j []) hm
  rw[Je6 l.length 0 j (Nat.zero_le _) (by omega) (λj' _ h=> ?_) (if_pos hj.1.2)]
  ·simp[J8e,hx]
  ·grind
 ·rw[Jff _ _ (λj _ h=> ?_)]
  ·simp[J8e,hx]
  ·grind
def pow(p:Val->Bool)(l:List Val):Int:=((l.filter p).map (·.2.1)).sum
def Jgd(l:List Val):Prop:=l.length<=1000/\∀v∈l,0<=v.2.1/\v.2.1<=2097152
theorem Je3 p:∀(l:List Val),(∀v∈l,0<=v.2.1/\v.2.1<=2097152)->0<=pow p l/\pow p l<=2097152*l.length
 |[],_=>by simp[pow]
 |v::l,h=>by
  have ih:=Je3 p l λw hw=>h w (List.mem_cons_of_mem _ hw)
  unfold pow at ih⊢
  grind
theorem Jzt p (l:List Val) (h:i<l.length):pow p (l.take (i+1))=pow p (l.take i)+(if p (l.getD i Jc8)then(l.getD i Jc8).2.1 else 0):=by
 unfold pow
 rw[List.take_add_one]
 grind
theorem Jae{l:List α}{i:Nat}{z:α}(h:i<l.length):l.getD i z∈l:=by
 grind
theorem Kas(l:List Val)(h:Jgd l):J36 l=some (pow (λ_=>true) l):=by
 have main:J36_1 0 l (l.length:Int) 0=some (pow (λ_=>true) l):=by
  have:=J8u (step:=λ(s:Int×Int)=>J36_1_step s.1 l (l.length:Int) s.2) (λi (_:Unit)=>(pow (λ_=>true) (l.take i),(i:Int))) (λ_ _=>()) (λ_=>pow (λ_=>true) l) l.length (λ_ _=>True) (λi w hi _=>⟨?_,trivial⟩) (λw _=> ?_) l.length 0 () (by omega) trivial
  ·exact this
  ·unfold J36_1_step
   simp only[Jta]
   have b:=Je3 (λ_=>true) (l.take i) λv hv=>h.2 v (List.mem_of_mem_take hv)
   have hm:=h.2 _ (Jae (z:=Jc8) hi)
   have hl:=h.1
   have t:=Jzt (λ_=>true) l hi
   rw[List.length_take]at b
   simp (disch:=omega)only[J8w,J9t,J8i,Int.toNat_natCast]
   rw[t]
   rfl
  ·unfold J36_1_step
   rw[oF,List.take_of_length_le (Nat.le_refl _)]
 unfold J36
 rw[main,J8f]
theorem Kaq(l:List Val)(h:Jgd l)(ns:List (List UInt8))(hn:ns.length<=1073741824):J35 l ns=some (pow (λv=>ns.contains v.1) l,pow (λ_=>true) l):=by
 have hl:=h.1
 have main:J35_1 l ns 0 l (l.length:Int) 0=some (l,pow (λv=>ns.contains v.1) l):=by
  have:=J8u (step:=λ(s:Int×Int)=>J35_1_step l ns s.1 l (l.length:Int) s.2) (λi (_:Unit)=>(pow (λv=>ns.contains v.1) (l.take i),(i:Int))) (λ_ _=>()) (λ_=>(l,pow (λv=>ns.contains v.1) l)) l.length (λ_ _=>True) (λi w hi _=>⟨?_,trivial⟩) (λw _=> ?_) l.length 0 () (by omega) trivial
  ·exact this
  ·unfold J35_1_step
   simp only[Jta]
   have b:=Je3 (λv=>ns.contains v.1) (l.take i) λv hv=>h.2 v (List.mem_of_mem_take hv)
   have hm:=h.2 _ (Jae (z:=Jc8) hi)
   have t:=Jzt (λv=>ns.contains v.1) l hi
   rw[List.length_take]at b
   simp (disch:=omega)only[J8w,J9t,J8i,Int.toNat_natCast,K92 _ _ hn,J8f]
   by_cases hc:ns.contains (l.getD i Jc8).1
   ·rw[if_pos hc]at t
    rw[hc,Jbz,t]
    rfl
   ·rw[if_neg hc]at t
    rw[Bool.not_eq_true]at hc
    rw[hc,J8y,t,Int.add_zero]
    rfl
  ·unfold J35_1_step
   rw[oF,List.take_of_length_le (Nat.le_refl _)]
 have b1:=Je3 (λv=>ns.contains v.1) l h.2
 have b2:=Je3 (λ_=>true) l h.2
 unfold J35
 rw[main,J8f,J8i (by show Int.natAbs (pow _ l)<_;omega),Kas l h,J8f,oN]
theorem K56(t:Int×Int) n d (h1:0<=t.1/\t.1<=4294967296) (h2:0<=t.2/\t.2<=4294967296) (hn:0<=n/\n<=1000) (hd:0<=d/\d<=1000):J7i t n d=some (decide (t.2*n<t.1*d)):=by
 unfold J7i
 have b1:0<=t.2*n/\t.2*n<=4294967296*1000:=⟨Int.mul_nonneg h2.1 hn.1,Int.mul_le_mul h2.2 hn.2 hn.1 (by omega)⟩
 have b2:0<=t.1*d/\t.1*d<=4294967296*1000:=⟨Int.mul_nonneg h1.1 hd.1,Int.mul_le_mul h1.2 hd.2 hd.1 (by omega)⟩
 rw[oW,oW]
def Ke7(v:Val):Bool:= !decide (v.1=[])&&(decide ((v.1.length:Int)<=16)&&(decide (1<=v.2.1)&&decide (v.2.1<=1048576)))
theorem may_eq v:J81 v=some (Ke7 v):=by
 unfold J81 Ke7
 simp only[Jmb]
 grind
def K9l(l:List Val)(i:Nat):Bool:=Ke7 (l.getD i Jc8)&&(i==0||J97 (l.getD (i - 1) Jc8).1 (l.getD i Jc8).1)
def Jfd(l:List Val):Bool:=(List.range l.length).all (K9l l)&&(decide (1<=l.length)&&decide (l.length<=5))
theorem right_eq(l:List Val)(hl:l.length<=1073741824):J1k l=some (Jfd l):=by
 have main:J1k_1 l l (l.length:Int) 0=some (scan (λi=>if K9l l i then none else some (.inl false)) (.inr l) 0 l.length):=by
  unfold J1k_1
  have step:∀i,i<l.length->J1k_1_step l l (l.length:Int) (i:Int)=if K9l l i then some (.inl ((i+1:Nat):Int))else some (.inr (.inl false)):=by
   intro i hi
   unfold J1k_1_step
   simp only[Jta]
   simp (disch:=omega)only[J8w,J9t,J8i,Int.toNat_natCast,may_eq,J8f]
   unfold K9l
   by_cases hm:Ke7 (l.getD i Jc8)
   ·rw[hm]
    by_cases h0:i=0
    ·subst h0;rw[oF];rfl
    ·rw[oT,oN,show Int.toNat ((i:Int) - 1)=i - 1 from by omega]
     have:(i==0)=false:=by simp[h0]
     rw[this,Bool.false_or]
     by_cases hs:J97 (l.getD (i - 1) Jc8).1 (l.getD i Jc8).1
     ·rw[hs];rfl
     ·rw[Bool.not_eq_true]at hs;rw[hs];rfl
   ·rw[Bool.not_eq_true]at hm;rw[hm];rfl
  refine Jca (step:=λ(s:Int)=>J1k_1_step l l (l.length:Int) s) (λi=>(i:Int)) _ _ l.length (λi hi h=> ?_) (λi r hi h=> ?_) ?_ l.length 0 (by omega)
  ·grind
  ·grind
  ·unfold J1k_1_step
   rw[oF]
 unfold J1k
 rw[main,J8f]
 unfold Jfd
 by_cases hall:(List.range l.length).all (K9l l)
 ·rw[Jff _ _ (λj _ h=>if_pos (List.all_eq_true.1 hall j (by simp;omega))),hall,Bool.true_and]
  simp only[Jmb]
  by_cases h1:1<=l.length
  ·rw[decide_eq_true h1,decide_eq_true (show(1:Int)<=(l.length:Int)by omega),if_pos rfl,Bool.true_and]
   congr 1
   grind
  ·grind
 ·rw[Bool.not_eq_true]at hall
  have:∃j,j<l.length/\K9l l j=false:=by
   grind
  obtain⟨j,hj⟩:=Nat.find_of this
  have hsc:scan (λi=>if K9l l i then none else some (.inl false)) (.inr l:Bool⊕List Val) 0 l.length= .inl false:=by
   refine Je6 l.length 0 j (Nat.zero_le _) (by omega) (λj' _ h=>if_pos ?_) (if_neg ?_)
   ·grind
   ·rw[hj.1.2];simp
  rw[hall,hsc]
  rfl
theorem K9p p (v:Val) l:pow p (v::l)=(if p v then v.2.1 else 0)+pow p l:=by
 unfold pow
 grind
theorem Kek p:pow p []=0:=rfl
theorem Je7:∀a:List UInt8,J97 a a=false
 |[]=>rfl
 |x::a=>by
  rw[J97,Je7 a]
  simp
theorem Jb1:∀a b c:List UInt8,J97 a b=true->J97 b c=true->J97 a c=true
 |_,[],_,h,_=>by cases ‹List UInt8›<;>simp[J97]at h
 |_,_::_,[],_,h=>by simp[J97]at h
 |[],_::_,_::_,_,_=>rfl
 | x::a,y::b,z::c,h1,h2=>by
  simp only[J97,Bool.or_eq_true,Bool.and_eq_true,beq_iff_eq]at h1 h2⊢
  rcases h1 with h1|⟨rfl,h1⟩
  ·grind
  ·rcases h2 with h2|⟨rfl,h2⟩
   ·exact .inl h2
   ·exact .inr ⟨rfl,Jb1 a b c h1 h2⟩
def incN(ns:List (List UInt8)):Bool:=(List.range (ns.length - 1)).all λi=>J97 (ns.getD i []) (ns.getD (i+1) [])
theorem Jue:∀(ns:List (List UInt8)),incN ns=true->ns.Pairwise (λa b=>J97 a b=true)
 |[],_=>List.Pairwise.nil
 |[x],_=>List.pairwise_singleton _ _
 | x::y::ns,h=>by
  have hall:∀i,i<ns.length+1->J97 ((x::y::ns).getD i []) ((x::y::ns).getD (i+1) [])=true:=λi hi=>List.all_eq_true.1 h i (by simp;omega)
  have ih:=Jue (y::ns) (List.all_eq_true.2 λi hi=>by
   have:=hall (i+1) (by simp at hi;omega)
   exact this)
  have h0:=hall 0 (by omega)
  refine List.pairwise_cons.2 ⟨λz hz=> ?_,ih⟩
  rcases List.mem_cons.1 hz with rfl|hz
  ·exact h0
  ·exact Jb1 _ _ _ h0 ((List.pairwise_cons.1 ih).1 z hz)
theorem Kdy:∀(ns:List (List UInt8)),ns.Pairwise (λa b=>J97 a b=true)->incN ns=true:=by
 intro ns h
 refine List.all_eq_true.2 λi hi=> ?_
 have hi:i<ns.length - 1:=by simpa using hi
 rw[List.getD_eq_getElem?_getD,List.getD_eq_getElem?_getD,List.getElem?_eq_getElem (by omega),List.getElem?_eq_getElem (by omega)]
 exact List.pairwise_iff_getElem.1 h i (i+1) (by omega) (by omega) (by omega)
def Ju5(l:List Val)(x:List UInt8):Val×Bool:=match l.find? (λv=>decide (v.1=x))with
 |some v=>(v,true)
 |none=>(Jc8,false)
theorem Jvd(l:List Val) x:∀(k i:Nat),i+k=l.length->scan (λi=>if(l.getD i Jc8).1=x then some (.inl (true,l.getD i Jc8))else none) (.inr Jc8:(Bool×Val)⊕Val) i k=
  match (l.drop i).find? (λv=>decide (v.1=x))with|some v=>.inl (true,v)|none=>.inr Jc8
 |0,i,h=>by rw[List.drop_of_length_le (by omega)];rfl
 | k+1,i,h=>by
  have hd:l.drop i=l.getD i Jc8::l.drop (i+1):=by
   rw[List.drop_eq_getElem_cons (by omega),List.getD_eq_getElem?_getD,List.getElem?_eq_getElem (by omega)];rfl
  rw[scan,hd]
  by_cases e:(l.getD i Jc8).1=x
  ·grind
  ·rw[if_neg e,List.find?_cons_of_neg (by simpa using e)]
   exact Jvd l x k (i+1) (by omega)
theorem Ju6 x (l:List Val) n i z:J3o_1_step x l n i z=(J8g (decide (i<n)) (need (0<=i/\i<(l.length:Int)) (J8g (decide ((l.getD (Int.toNat i) Jc8).1=x)) (some (.inr (.inl (true,l.getD (Int.toNat i) Jc8)))) (some (.inl (w64 (i+1)))))) (some (.inr (.inr z))):Option (Int⊕((Bool×Val)⊕Val))):=rfl
theorem Kdo(l:List Val)(hl:l.length<=1073741824) x:J3o l x=some (Ju5 l x):=by
 have h:J3o_1 x l (l.length:Int) 0 Jc8=some (scan (λi=>if(l.getD i Jc8).1=x then some (.inl (true,l.getD i Jc8))else none) (.inr Jc8) 0 l.length):=by
  refine Jca (step:=λ(s:Int)=>J3o_1_step x l (l.length:Int) s Jc8) (λi=>(i:Int)) _ _ l.length (λi hi h=> ?_) (λi r hi h=> ?_) ?_ l.length 0 (by omega)
  ·rw[Ju6,oT,oN,Int.toNat_natCast,oW]
   by_cases e:(l.getD i Jc8).1=x
   ·rw[if_pos e]at h;cases h
   ·rw[J90 e];rfl
  ·rw[Ju6,oT,oN,Int.toNat_natCast]
   by_cases e:(l.getD i Jc8).1=x
   ·rw[if_pos e]at h;injection h with h;subst h;rw[J8w e]
   ·rw[if_neg e]at h;cases h
  ·unfold J3o_1_step
   rw[oF]
 unfold J3o
 simp only[Jta]
 rw[h,J8f,Jvd l x l.length 0 (by omega)]
 unfold Ju5
 grind
def Dist(l:List Val):Prop:=(l.map (·.1)).Nodup
theorem Kdp(hd:Dist l)(hv:v∈l):Ju5 l v.1=(v,true):=by
 have:l.find? (λw=>decide (w.1=v.1))=some v:=by
  induction l with
  |nil=>cases hv
  | cons w l ih=>
   unfold Dist at hd
   rw[List.map_cons,List.nodup_cons]at hd
   rcases List.mem_cons.1 hv with rfl|hv
   ·grind
   ·rw[List.find?_cons_of_neg]
    ·exact ih hd.2 hv
    ·grind
 unfold Ju5
 rw[this]
abbrev Pr:=List UInt8×List UInt8×Unit
def zPr:Pr:=([],[],())
abbrev PT:Ty:=.fld .str (.fld .str .unit)
theorem pbeq a b:Ty.beq PT a b=decide (a=b):=by
 rw[Bool.eq_iff_iff,Ty.beq_iff PT rfl a b,decide_eq_true_eq]
theorem Jk9:∀a b:List UInt8,J97 a b=false->a=b\/J97 b a=true
 |[],[],_=>.inl rfl
 |_::_,[],_=>.inr rfl
 |[],_::_,h=>by simp[J97]at h
 | x::a,y::b,h=>by
  simp only[J97,Bool.or_eq_false_iff,Bool.and_eq_false_iff,beq_eq_false_iff_ne]at h
  obtain⟨h1,h2⟩:=h
  by_cases e:x=y
  ·subst e
   rcases Jk9 a b (h2.resolve_left (λq=>q rfl))with rfl|h
   ·exact .inl rfl
   ·exact .inr (by simp[J97,h])
  ·have:y<x:=by
    grind
   simp[J97,this]
theorem Jw7:∀a b:List UInt8,(Jw6 a b<0)↔J97 a b=true
 |[],[]=>by simp[Jw6,Lib.compareBytes,J97]
 |[],_::_=>by simp[Jw6,Lib.compareBytes,J97]
 |_::_,[]=>by simp[Jw6,Lib.compareBytes,J97]
 |x::a,y::b=>by
  have ih:=Jw7 a b
  unfold Jw6 at ih
  unfold Jw6
  rw[Lib.compareBytes,J97]
  grind
theorem Jrb:∀a b:List UInt8,(Jw6 a b=0)↔a=b
 |[],[]=>by simp[Jw6,Lib.compareBytes]
 |[],_::_=>by simp[Jw6,Lib.compareBytes]
 |_::_,[]=>by simp[Jw6,Lib.compareBytes]
 |x::a,y::b=>by
  have ih:=Jrb a b
  unfold Jw6 at ih
  unfold Jw6
  rw[Lib.compareBytes]
  grind
def J8o:List Pr->List UInt8->Nat
 |[],_=>0
 |p::r,k=>bif J97 p.1 k then J8o r k+1 else 0
theorem below_le:∀(l:List Pr) (k:List UInt8),J8o l k<=l.length
 |[],_=>Nat.le_refl _
 |p::r,k=>by
  have:=below_le r k
  unfold J8o
  grind
theorem Jhm:∀(l:List Pr) (k:List UInt8) (i:Nat),i<J8o l k->J97 (l.getD i zPr).1 k=true
 |[],_,i,h=>by unfold J8o at h;omega
 | p::r,k,i,h=>by
  unfold J8o at h
  cases e:J97 p.1 k with
  |false=>rw[e,cond_false]at h;omega
  |true=>
   rw[e,cond_true]at h
   match i with
   |0=>exact e
   |j+1=>exact Jhm r k j (by omega)
theorem Jm8:∀(l:List Pr) (k:List UInt8),J8o l k<l.length->J97 (l.getD (J8o l k) zPr).1 k=false
 |[],_,h=>by simp at h
 | p::r,k,h=>by
  unfold J8o at h⊢
  cases e:J97 p.1 k with
  |false=>exact e
  |true=>
   rw[e,cond_true,List.length_cons]at h
   exact Jm8 r k (by omega)
theorem K0i(l:List Pr) k (n:Nat) (hn:n<=l.length) (h1:∀i,i<n->J97 (l.getD i zPr).1 k=true) (h2:n<l.length->J97 (l.getD n zPr).1 k=false):J8o l k=n:=by
 rcases Nat.lt_trichotomy (J8o l k) n with h|h|h
 ·have a:=h1 _ h
  rw[Jm8 l k (by omega)]at a;cases a
 ·exact h
 ·have a:=Jhm l k n h
  have b:=below_le l k
  grind
def Jb6(l:List Pr):Prop:=l.Pairwise (λa b=>J97 a.1 b.1=true)
theorem Jjl(h:Jb6 l)(hij:i<j)(hj:j<l.length):J97 (l.getD i zPr).1 (l.getD j zPr).1=true:=by
 rw[List.getD_eq_getElem?_getD,List.getD_eq_getElem?_getD,List.getElem?_eq_getElem hj,List.getElem?_eq_getElem (by omega)]
 exact List.pairwise_iff_getElem.1 h i j (by omega) hj hij
theorem Jbp(h:Jb6 l) k (hi:i<l.length):J97 (l.getD i zPr).1 k=true↔i<J8o l k:=by
 refine⟨λhs=> ?_,Jhm l k i⟩
 apply Classical.byContradiction
 intro hn
 have b:=Jm8 l k (by omega)
 rcases Nat.lt_or_ge (J8o l k) i with c|c
 ·rw[Jb1 _ _ _ (Jjl h c hi) hs]at b;cases b
 ·grind
theorem K0h l a b (h:J97 a b=false):J8o l b<=J8o l a:=by
 apply Nat.le_of_not_lt
 intro hc
 have hl:=below_le l b
 have h1:=Jhm l b _ hc
 have h2:=Jm8 l a (by omega)
 rcases Jk9 a b h with rfl|q
 ·rw[h1]at h2;cases h2
 ·rw[Jb1 _ _ _ h1 q]at h2;cases h2
def Ji5(l:List Pr)(k:List UInt8):Bool:=decide (J8o l k<l.length/\(l.getD (J8o l k) zPr).1=k)
theorem Jza(h:Jb6 l) k:Ji5 l k=true↔∃p∈l,p.1=k:=by
 unfold Ji5
 constructor
 ·grind
 ·rintro⟨p,hp,e⟩
  obtain⟨i,hi,rfl⟩:=List.getElem_of_mem hp
  have hg:l.getD i zPr=l[i]:=by rw[List.getD_eq_getElem?_getD,List.getElem?_eq_getElem hi];rfl
  have:J8o l k=i:=by
   refine K0i l k i (by omega) (λj hj=> ?_) λ_=> ?_
   ·rw[<-e,<-hg];exact Jjl h hj hi
   ·rw[hg,e];exact Je7 k
  grind
theorem mid_eq(i j:Nat)(h:i+j<=1073741824):w64 ((UInt64.toNat (UInt64.ofNat (UInt64.toNat (UInt64.ofNat (Int.toNat ((w64 ((i:Int)+(j:Int)))%18446744073709551616)))>>>(Int.toNat (1:Int)))):Nat):Int)=(((i+j) / 2:Nat):Int):=by
 rw[oX ((i:Int)+(j:Int))]
 have e1:Int.toNat (((i:Int)+(j:Int))%18446744073709551616)=i+j:=by omega
 have e2:UInt64.toNat (UInt64.ofNat (i+j))=i+j:=by rw[UInt64.toNat_ofNat'];omega
 have e3:(i+j)>>>(Int.toNat (1:Int))=(i+j) / 2:=rfl
 have e4:UInt64.toNat (UInt64.ofNat ((i+j) / 2))=(i+j) / 2:=by rw[UInt64.toNat_ofNat'];omega
 rw[e1,e2,e3,e4,oW]
theorem Juy(p:Pr) k:J70 p k=some (Jw6 p.1 k):=rfl
theorem K2y x0 x1 (x2:Int) (x3:Int) (x4:Int):Ja_1_step x0 x1 x2 x3 x4=
  (J8g (decide (x3<x4)) (need (0<=(w64 ((UInt64.toNat (UInt64.ofNat (UInt64.toNat (UInt64.ofNat (Int.toNat ((w64 (x3+x4))%18446744073709551616)))>>>(Int.toNat (1:Int)))):Nat):Int))/\(w64 ((UInt64.toNat (UInt64.ofNat (UInt64.toNat (UInt64.ofNat (Int.toNat ((w64 (x3+x4))%18446744073709551616)))>>>(Int.toNat (1:Int)))):Nat):Int))<(List.length x0:Int)) (J8e (J70 (List.getD x0 (Int.toNat (w64 ((UInt64.toNat (UInt64.ofNat (UInt64.toNat (UInt64.ofNat (Int.toNat ((w64 (x3+x4))%18446744073709551616)))>>>(Int.toNat (1:Int)))):Nat):Int))) zPr) x1) (λu4=>J8g (decide (u4<(0:Int))) (some (.inl ((w64 ((w64 ((UInt64.toNat (UInt64.ofNat (UInt64.toNat (UInt64.ofNat (Int.toNat ((w64 (x3+x4))%18446744073709551616)))>>>(Int.toNat (1:Int)))):Nat):Int))+(1:Int))),x4))) (some (.inl (x3,(w64 ((UInt64.toNat (UInt64.ofNat (UInt64.toNat (UInt64.ofNat (Int.toNat ((w64 (x3+x4))%18446744073709551616)))>>>(Int.toNat (1:Int)))):Nat):Int)))))))) (some (.inr (x0,x1,x2,x3))):Option ((Int×Int)⊕((List Pr)×List UInt8×Int×Int))):=rfl
theorem Jw3(l:List Pr)(hr:Jb6 l)(hl:l.length<=1000) k:∀(m i j:Nat),j - i<=m->i<=J8o l k->J8o l k<=j->j<=l.length->
  Ja_1 l k (l.length:Int) (i:Int) (j:Int)=some (l,k,(l.length:Int),(J8o l k:Int))
 | m,i,j,hm,h1,h2,h3=>by
  unfold Ja_1
  by_cases c:i<j
  ·have hs:Ja_1_step l k (l.length:Int) (i:Int) (j:Int)=some (.inl (if(i+j) / 2<J8o l k then((((i+j) / 2+1:Nat):Int),(j:Int))else((i:Int),(((i+j) / 2:Nat):Int)))):=by
    rw[K2y,oT,mid_eq i j (by omega),oN,Int.toNat_natCast,Juy,J8f,oW]
    by_cases q:(i+j) / 2<J8o l k
    ·rw[if_pos q,J8w ((Jw7 _ _).2 (Jhm l k _ q))];rfl
    ·rw[if_neg q,J90 (λe=>q ((Jbp hr k (by omega)).1 ((Jw7 _ _).1 e)))]
   rw[J9v hs]
   match m with
   |0=>omega
   | m+1=>
    by_cases q:(i+j) / 2<J8o l k
    ·rw[if_pos q]
     exact Jw3 l hr hl k m ((i+j) / 2+1) j (by omega) (by omega) h2 h3
    ·rw[if_neg q]
     exact Jw3 l hr hl k m i ((i+j) / 2) (by omega) h1 (by omega) (by omega)
  ·have:i=J8o l k:=by omega
   subst this
   exact J9d (by rw[K2y,oF])
theorem Jjy(l:List Pr)(hr:Jb6 l)(hl:l.length<=1000) k:J6s l k=some ((J8o l k:Int),Ji5 l k):=by
 have hb:=below_le l k
 have h:Ja l k=some ((J8o l k:Int),Ji5 l k):=by
  unfold Ja
  rw[show((0:Int))=((0:Nat):Int)from rfl,Jw3 l hr hl k l.length 0 l.length (by omega) (by omega) hb (Nat.le_refl _),J8f]
  simp only
  unfold Ji5
  by_cases c:J8o l k<l.length
  ·rw[oT,oN,Juy,J8f]
   congr 2
   exact decide_eq_decide.2 ⟨λe=>⟨c,(Jrb _ _).1 e⟩,λe=>(Jrb _ _).2 e.2⟩
  ·rw[oF,decide_eq_false (λe=>c e.1)]
 unfold J6s
 rw[h,J8f]
theorem Jh1(l:List Pr)(hr:Jb6 l)(hl:l.length<=1000) k:J6a l k=some (J8o l k:Int):=by
 unfold J6a
 rw[Jjy l hr hl,J8f]
theorem Jfx(l:List Pr)(hr:Jb6 l)(hl:l.length<=1000) k:J4u l k=some (if Ji5 l k then((l.getD (J8o l k) zPr).2.1,true)else([],false)):=by
 unfold J4u
 rw[Jjy l hr hl,J8f]
 cases c:Ji5 l k with
 |false=>rfl
 |true=>
  have:=c
  unfold Ji5 at this
  rw[decide_eq_true_eq]at this
  rw[oN];rfl
def Jvx(x:List UInt8):List UInt8:=Jev x.length++x
theorem Jgb(x:List UInt8):(Jvx x).length<=x.length+7:=by
 have:=J9o (x.length:Int)
 unfold Jvx;rw[List.length_append];omega
theorem Jt6(l:List (List UInt8))(hl:l.length<=1000)(h:∀x∈l,x.length<=100000):J1w l=some (l.flatMap Jvx):=by
 have hlen:∀i,((l.take i).flatMap Jvx).length<=100007*i:=by
  intro i
  have:∀(m:List (List UInt8)),(∀x∈m,x.length<=100000)->(m.flatMap Jvx).length<=100007*m.length:=by
   intro m
   induction m with
   |nil=>intro _;simp
   |cons a m ih=>intro hm;have h1:=ih (λx hx=>hm x (List.mem_cons_of_mem _ hx));have h2:=hm a List.mem_cons_self;have h3:=Jgb a;rw[List.flatMap_cons,List.length_append,List.length_cons];omega
  grind
 have main:J1w_1 l (l.length:Int) 0 []=some (l.flatMap Jvx):=by
  have:=J8u (step:=λ(s:Int×List UInt8)=>J1w_1_step l (l.length:Int) s.1 s.2) (λi (_:Unit)=>((i:Int),(l.take i).flatMap Jvx)) (λ_ _=>()) (λ_=>l.flatMap Jvx) l.length (λ_ _=>True) (λi w hi _=>⟨?_,trivial⟩) (λw _=> ?_) l.length 0 () (by omega) trivial
  ·exact this
  ·show J1w_1_step l (l.length:Int) (i:Int) ((l.take i).flatMap Jvx)=_
   unfold J1w_1_step
   have b:=hlen i
   have hm:(l.getD i []).length<=100000:=h _ (Jae hi)
   have b2:=J9o ((l.getD i []).length:Int)
   rw[oT,oN,Int.toNat_natCast,K51,J8f,oN,J8i (by rw[List.length_append];omega),oW,List.append_assoc,Jf4 Jvx l [] hi]
   rfl
  ·unfold J1w_1_step
   rw[oF,List.take_of_length_le (Nat.le_refl _)]
 unfold J1w
 rw[main,J8f]
theorem Kds(n:Nat)(h:n<=1000000000):J40 (n:Int)=some []:=by
 unfold J40
 rw[oF,Int.sub_zero,oW]
 by_cases c:(0:Int)<(n:Int)
 ·rw[J8w c,J8i ⟨rfl,rfl⟩,J8i (by rw[List.length_replicate];omega),oN]
  rfl
 ·rw[J90 c]
theorem K37(l:List (List UInt8))(h:l.flatten.length<=1000000000)(hl:l.length<=1000000):Jf l=some l.flatten:=by
 have ht:∀i,((l.take i).flatten).length<=1000000000:=λi=>Nat.le_trans (Jem l i) h
 have m1:Jf_1 l 0 l (l.length:Int) 0=some (l,(l.flatten.length:Int)):=by
  have:=J8u (step:=λ(s:Int×Int)=>Jf_1_step l s.1 l (l.length:Int) s.2) (λi (_:Unit)=>((((l.take i).flatten).length:Int),(i:Int))) (λ_ _=>()) (λ_=>(l,(l.flatten.length:Int))) l.length (λ_ _=>True) (λi w hi _=>⟨?_,trivial⟩) (λw _=> ?_) l.length 0 () (by omega) trivial
  ·exact this
  ·unfold Jf_1_step
   have e:=congrArg List.length (getD_take l hi)
   rw[List.length_append]at e
   have b:=ht (i+1)
   rw[oT,oN,Int.toNat_natCast,oW,oF,oW]
   congr 3
   omega
  ·unfold Jf_1_step
   rw[oF,List.take_of_length_le (Nat.le_refl _)]
 have m2:Jf_2 l (l.length:Int) 0 []=some l.flatten:=by
  unfold Jf_2
  have:=J8u (step:=λ(s:Int×List UInt8)=>Jf_2_step l (l.length:Int) s.1 s.2) (λi (_:Unit)=>((i:Int),(l.take i).flatten)) (λ_ _=>()) (λ_=>l.flatten) l.length (λ_ _=>True) (λi w hi _=>⟨?_,trivial⟩) (λw _=> ?_) l.length 0 () (by omega) trivial
  ·exact this
  ·show Jf_2_step l (l.length:Int) (i:Int) ((l.take i).flatten)=_
   unfold Jf_2_step
   have e:=congrArg List.length (getD_take l hi)
   rw[List.length_append]at e
   have b:=ht (i+1)
   rw[oT,oN,Int.toNat_natCast,oN,oW,getD_take l hi]
   rfl
  ·unfold Jf_2_step
   rw[oF,List.take_of_length_le (Nat.le_refl _)]
 unfold Jf
 rw[m1,J8f]
 simp only
 rw[Kds _ h,J8f,m2,J8f]
def Jy3(v:Val):List UInt8:=Jvx v.1++Jev v.2.1++v.2.2.1
def K6a(l:List Val):List UInt8:=Jev l.length++l.flatMap Jy3
def setH(l:List Val):List UInt8:=sha (86::K6a l)
def Jth(l:List Val):Prop:=l.length<=1000/\∀v∈l,v.1.length<=100000/\v.2.2.1.length=32
theorem Jaq l:(setH l).length=32:=Ja8 _
theorem K02(h:v.1.length<=100000/\v.2.2.1.length=32):(Jy3 v).length<=100100:=by
 have h1:=Jgb v.1
 have h2:=J9o v.2.1
 unfold Jy3
 grind
theorem K03:∀(m:List Val),(∀v∈m,v.1.length<=100000/\v.2.2.1.length=32)->(m.flatMap Jy3).length<=100100*m.length
 |[],_=>by simp
 |a::m,hm=>by
  have h1:=K03 m λx hx=>hm x (List.mem_cons_of_mem _ hx)
  have h2:=K02 (hm a List.mem_cons_self)
  grind
theorem Jk7(h:Jth l)(i:Nat):(Jev l.length++(l.take i).flatMap Jy3).length<=100100*1000+7:=by
 have h1:=J9o (l.length:Int)
 have h2:=K03 (l.take i) λv hv=>h.2 v (List.mem_of_mem_take hv)
 have h3:=h.1
 grind
theorem Jkg x0 (x1:Int) (x2:Int) x3 x4:J1m_1_step x0 x1 x2 x3 x4=(J8g (decide (x2<x1)) (need (0<=x2/\x2<(List.length x0:Int)) (J8e (J1w ([(List.getD x0 (Int.toNat x2) Jc8).1]:List (List UInt8))) (λu6=>J8e (J16 ([(List.getD x0 (Int.toNat x2) Jc8).2.1]:List (Int))) (λu8=>J8e (J26 ([(List.getD x0 (Int.toNat x2) Jc8).2.2.1]:List (List UInt8))) (λu10=>J8e (Jf ([x4,u6,u8,u10]:List (List UInt8))) (λu12=>some (.inl ((w64 (x2+(1:Int))),u12)))))))) (some (.inr (x3,x4))):Option ((Int×List UInt8)⊕(List UInt8×List UInt8))):=rfl
theorem Jbc l (h:Jth l):J1m l=some (setH l):=by
 have hl:=h.1
 have main:J1m_1 l (l.length:Int) 0 (List.replicate 32 0) (Jev l.length)=some (List.replicate 32 0,K6a l):=by
  unfold J1m_1
  have:=J8u (step:=λ(s:Int×List UInt8)=>J1m_1_step l (l.length:Int) s.1 (List.replicate 32 0) s.2) (λi (_:Unit)=>((i:Int),Jev l.length++(l.take i).flatMap Jy3)) (λ_ _=>()) (λ_=>(List.replicate 32 0,K6a l)) l.length (λ_ _=>True) (λi w hi _=>⟨?_,trivial⟩) (λw _=> ?_) l.length 0 () (by omega) trivial
  ·grind
  ·have hv:=h.2 _ (Jae (z:=Jc8) hi)
   have b2:=K02 hv
   rw[Jkg,oT,oN,Int.toNat_natCast,Jt6 _ (by simp) (by simp;exact hv.1),J8f,put_eq _ (by simp),J8f,Jww _ (by simp) (by simp;exact hv.2),J8f]
   have e:[Jev (l.length:Int)++(l.take i).flatMap Jy3,[(l.getD i Jc8).1].flatMap Jvx,Jdf [(l.getD i Jc8).2.1],[(l.getD i Jc8).2.2.1].flatten].flatten=Jev (l.length:Int)++(l.take (i+1)).flatMap Jy3:=by
    rw[Jf4 Jy3 l Jc8 hi]
    simp[Jy3,Jdf,List.append_assoc]
   have b3:=Jk7 h (i+1)
   rw[K37 _ (by rw[e];omega) (by simp),J8f,e,oW]
   rfl
  ·unfold J1m_1_step
   rw[oF,List.take_of_length_le (Nat.le_refl _)]
   rfl
 have b:=Jk7 h l.length
 rw[List.take_of_length_le (Nat.le_refl _)]at b
 have b:(K6a l).length<=100100*1000+7:=b
 have hp:Jdf [(l.length:Int)]=Jev l.length:=by simp[Jdf]
 have hf:[K6a l].flatten=K6a l:=by simp
 unfold J1m
 rw[put_eq _ (by simp),J8f,hp,main,J8f]
 simp only
 rw[Jb5 _ _ (by rw[hf];omega) (by simp),hf]
 rfl
theorem Jsv(x:List UInt8)(hx:x.length<=100000):J3q x=some (Jvx x):=by
 have:=J9o (x.length:Int)
 unfold J3q
 rw[Jex,J8f,oN]
 rfl
theorem Jd8 x0 (x1:Int) (x2:Int) x3 x4:Jo_1_step x0 x1 x2 x3 x4=(J8g (decide (x2<x1)) (need (0<=x2/\x2<(List.length x0:Int)) (J8e (J3q ((List.getD x0 (Int.toNat x2) Jc8).1)) (λu6=>need (List.length x4+List.length u6<=2147483648) (J8e (Jl ((List.getD x0 (Int.toNat x2) Jc8).2.1)) (λu9=>need (List.length (x4++u6)+List.length u9<=2147483648) (need (List.length ((x4++u6)++u9)+List.length (List.getD x0 (Int.toNat x2) Jc8).2.2.1<=2147483648) (some (.inl ((w64 (x2+(1:Int))),(((x4++u6)++u9)++(List.getD x0 (Int.toNat x2) Jc8).2.2.1)))))))))) (some (.inr (x3,x4))):Option ((Int×List UInt8)⊕(List UInt8×List UInt8))):=rfl
theorem Je5 l (h:Jth l):Jo l=some (setH l):=by
 have hl:=h.1
 have main:Jo_1 l (l.length:Int) 0 (List.replicate 32 0) (Jev l.length)=some (List.replicate 32 0,K6a l):=by
  unfold Jo_1
  have:=J8u (step:=λ(s:Int×List UInt8)=>Jo_1_step l (l.length:Int) s.1 (List.replicate 32 0) s.2) (λi (_:Unit)=>((i:Int),Jev l.length++(l.take i).flatMap Jy3)) (λ_ _=>()) (λ_=>(List.replicate 32 0,K6a l)) l.length (λ_ _=>True) (λi w hi _=>⟨?_,trivial⟩) (λw _=> ?_) l.length 0 () (by omega) trivial
  ·rw[show((0:Int),Jev (l.length:Int))=(((0:Nat):Int),Jev (l.length:Int)++(l.take 0).flatMap Jy3)from by simp]
   exact this
  ·show Jo_1_step l (l.length:Int) (i:Int) (List.replicate 32 0) (Jev l.length++(l.take i).flatMap Jy3)=_
   have hv:=h.2 _ (Jae (z:=Jc8) hi)
   have b:=Jk7 h i
   have b1:=Jgb (l.getD i Jc8).1
   have b2:=J9o (l.getD i Jc8).2.1
   rw[Jd8,oT,oN,Int.toNat_natCast,Jsv _ hv.1,J8f,oN,Jex,J8f,J8i (by rw[@List.length_append _ (Jev _++_) _];omega),J8i (by rw[@List.length_append _ ((Jev _++_)++_) _,@List.length_append _ (Jev _++_) _];omega),oW,Jf4 Jy3 l Jc8 hi]
   simp[Jy3]
  ·unfold Jo_1_step
   rw[oF,List.take_of_length_le (Nat.le_refl _)]
   rfl
 have b:=Jk7 h l.length
 rw[List.take_of_length_le (Nat.le_refl _)]at b
 have b:(K6a l).length<=100100*1000+7:=b
 have hf:[K6a l].flatten=K6a l:=by simp
 unfold Jo
 rw[Jex,J8f,main,J8f]
 simp only
 rw[Ja3 _ _ (by rw[hf];omega) (by simp),hf]
 rfl
def Jpj:Nat->Nat->Nat->Nat
 |0,k,n=>k
 |f+1,k,n=>if 2*k<n then Jpj f (2*k) n else k
def J94(n:Nat):Nat:=Jpj 40 1 n
theorem Jsd k f:2*(2*k)*2^f=2*k*(2^f*2):=by
 grind
theorem K4m:∀(f k n:Nat),1<=k->k<n->n<=2*k*2^f->k<=Jpj f k n/\Jpj f k n<n/\n<=2*Jpj f k n
 |0,k,n,h1,h2,h3=>by
  simp at h3
  exact⟨Nat.le_refl _,h2,h3⟩
 | f+1,k,n,h1,h2,h3=>by
  rw[Jpj]
  split
  ·rename_i h
   have:=K4m f (2*k) n (by omega) h (by rw[Nat.pow_succ]at h3;rw[Jsd];exact h3)
   exact⟨by omega,this.2⟩
  ·omega
theorem Jda(n:Nat)(h:2<=n)(h2:n<=1099511627776):1<=J94 n/\J94 n<n/\n<=2*J94 n:=K4m 40 1 n (by omega) (by omega) (by omega)
theorem Juk:∀(f k n:Nat),n<=2*k*2^f->1<=k->n<=1073741824->k<=1073741824->J25_1 (n:Int) (k:Int)=some ((Jpj f k n:Nat):Int)
 |0,k,n,h,h1,h2,hk=>by
  refine J9d ?_
  unfold J25_1_step
  rw[oW,oF]
  rfl
 | f+1,k,n,h,h1,h2,hk=>by
  rw[Jpj]
  split
  ·rename_i hlt
   rw[<-Juk f (2*k) n (by rw[Nat.pow_succ]at h;rw[Jsd];exact h) (by omega) h2 (by omega)]
   have hs:J25_1_step (n:Int) (k:Int)=some (.inl ((2*k:Nat):Int)):=by
    unfold J25_1_step
    rw[oW,oW,oT,show(k:Int)*2=((2*k:Nat):Int)from by omega]
   unfold J25_1
   rw[J9v hs]
  ·rename_i hlt
   refine J9d ?_
   unfold J25_1_step
   rw[oW,oF]
theorem left_eq(n:Nat)(h:n<=1073741824):J25 (n:Int)=some ((J94 n:Nat):Int):=by
 unfold J25
 rw[show(1:Int)=((1:Nat):Int)from rfl,Juk 40 1 n (by omega) (by omega) h (by omega)]
 rfl
def Ka8(l:List (List UInt8)):List UInt8:=
 if h:2<=l.length/\l.length<=1099511627776 then sha (1::(Ka8 (l.take (J94 l.length))++Ka8 (l.drop (J94 l.length))))
 else if l.length=0 then sha [2]else sha (0::l.getD 0 [])
termination_by l.length
decreasing_by
 ·have:=Jda l.length h.1 h.2;simp;omega
 ·have:=Jda l.length h.1 h.2;simp;omega
theorem Kb:∃f:List (List UInt8)->List UInt8,∀l,f l=if h:2<=l.length/\l.length<=1099511627776 then sha (1::(f (l.take (J94 l.length))++f (l.drop (J94 l.length))))else if l.length=0 then sha [2]else sha (0::l.getD 0 []):=
 ⟨Ka8,λl=>by rw[Ka8]⟩
noncomputable def Jc1:List (List UInt8)->List UInt8:=Classical.choose Kb
theorem Jmj(l:List (List UInt8)):Jc1 l=if h:2<=l.length/\l.length<=1099511627776 then sha (1::(Jc1 (l.take (J94 l.length))++Jc1 (l.drop (J94 l.length))))else if l.length=0 then sha [2]else sha (0::l.getD 0 []):=Classical.choose_spec Kb l
theorem Jb4 l:(Jc1 l).length=32:=by
 rw[Jmj];split
 ·exact Ja8 _
 ·split<;>exact Ja8 _
def Jgz(a b:List UInt8):List UInt8:=sha (1::(a++b))
def K12(x:List UInt8):List UInt8:=sha (0::x)
theorem Jou(l:List (List UInt8))(h:2<=l.length)(h2:l.length<=1099511627776):Jc1 l=Jgz (Jc1 (l.take (J94 l.length))) (Jc1 (l.drop (J94 l.length))):=by
 rw[Jmj,dif_pos ⟨h,h2⟩];rfl
theorem Jhe x:Jc1 [x]=K12 x:=by
 rw[Jmj];rfl
theorem Jqp:Jc1 []=sha [2]:=by
 rw[Jmj,dif_neg (by simp),if_pos (by simp)]
theorem Js3(a b:List UInt8)(ha:a.length=32)(hb:b.length=32):J6l a b=some (Jgz a b):=by
 unfold J6l
 have hf:[a,b].flatten=a++b:=by simp
 rw[Jb5 _ _ (by rw[hf,List.length_append];omega) (by simp),hf]
 rfl
def Small(l:List (List UInt8)):Prop:=∀x∈l,x.length<=1000000
theorem Jdu(h:Small l)(n:Nat):Small (l.take n):=λx hx=>h x (List.mem_of_mem_take hx)
theorem Jdt(h:Small l)(n:Nat):Small (l.drop n):=λx hx=>h x (List.mem_of_mem_drop hx)
theorem Jov:∀(k:Nat) (l:List (List UInt8)),l.length<k->l.length<=1000->Small l->J3f_f k l=some (Jc1 l)
 |0,l,h,_,_=>by omega
 | k+1,l,h,h2,hl=>by
  rw[J3f_f]
  match l,h,h2,hl with
  |[],h,h2,hl=>
   rw[Jb5 _ _ (by simp) (by simp),Jqp];rfl
  |[x],h,h2,hl=>
   have hx:=hl x (by simp)
   have hf:[List.getD [x] (Int.toNat (0:Int)) []].flatten=x:=by simp
   rw[J90 (by simp),Jb5 _ _ (by rw[hf];omega) (by simp),hf,Jhe];rfl
  | x::y::r,h,h2,hl=>
   have hn:2<=(x::y::r).length:=by simp
   generalize x::y::r=l at h h2 hl hn
   obtain⟨b1,b2,b3⟩:=Jda l.length hn (by omega)
   rw[oF,oF,left_eq _ (by omega),J8f,oN,Jgu,Jbt,Int.toNat_natCast,Jov k (l.take (J94 l.length)) (by rw[List.length_take];omega) (by rw[List.length_take];omega) (Jdu hl _),J8f,oN,
    Jov k (l.drop (J94 l.length)) (by rw[List.length_drop];omega) (by rw[List.length_drop];omega) (Jdt hl _),J8f,Js3 _ _ (Jb4 _) (Jb4 _),J8f,Jou l hn (by omega)]
theorem Jso(l:List (List UInt8))(h:l.length<64)(hl:Small l):J3f l=some (Jc1 l):=Jov 64 l h (by omega) hl
noncomputable def Jbh:Nat->List (List UInt8)->Nat->List (List UInt8)
 |0,_,_=>[]
 | f+1,l,i=>if l.length<=1 then[]else if i<J94 l.length then Jbh f (l.take (J94 l.length)) i++[Jc1 (l.drop (J94 l.length))]
   else Jbh f (l.drop (J94 l.length)) (i - J94 l.length)++[Jc1 (l.take (J94 l.length))]
def J9u:Nat->Nat->Nat->List Bool
 |0,_,_=>[]
 |f+1,i,n=>if n<=1 then[]else if i<J94 n then true::J9u f i (J94 n)else false::J9u f (i - J94 n) (n - J94 n)
theorem Jhu:∀(f g:Nat) (l:List (List UInt8)) (i:Nat),l.length<=f+1->l.length<=g+1->l.length<=1000->Jbh f l i=Jbh g l i
 |0,g,l,i,h,_,_=>by
  cases g with
  |zero=>rfl
  |succ g=>rw[Jbh,Jbh,if_pos h]
 |f+1,0,l,i,_,h,_=>by rw[Jbh,Jbh,if_pos h]
 | f+1,g+1,l,i,h,h2,h3=>by
  rw[Jbh,Jbh]
  by_cases h1:l.length<=1
  ·rw[if_pos h1,if_pos h1]
  ·obtain⟨b1,b2,b3⟩:=Jda l.length (by omega) (by omega)
   rw[if_neg h1,if_neg h1,Jhu f g (l.take (J94 l.length)) i (by rw[List.length_take];omega) (by rw[List.length_take];omega) (by rw[List.length_take];omega),Jhu f g (l.drop (J94 l.length)) _ (by rw[List.length_drop];omega) (by rw[List.length_drop];omega) (by rw[List.length_drop];omega)]
theorem Jdr:∀(f:Nat) (l:List (List UInt8)) (i:Nat),l.length<=1000->(Jbh f l i).length=(J9u f i l.length).length
 |0,_,_,_=>rfl
 | f+1,l,i,h=>by
  rw[Jbh,J9u]
  by_cases h1:l.length<=1
  ·rw[if_pos h1,if_pos h1];rfl
  ·obtain⟨b1,b2,b3⟩:=Jda l.length (by omega) (by omega)
   rw[if_neg h1,if_neg h1]
   by_cases hi:i<J94 l.length
   ·rw[if_pos hi,if_pos hi,List.length_append,Jdr f _ _ (by rw[List.length_take];omega),List.length_take,Nat.min_eq_left (by omega)];simp
   ·rw[if_neg hi,if_neg hi,List.length_append,Jdr f _ _ (by rw[List.length_drop];omega)];simp
theorem Je2:∀(f:Nat) (l:List (List UInt8)) (i:Nat),(Jbh f l i).length<=f
 |0,_,_=>by simp[Jbh]
 | f+1,l,i=>by
  rw[Jbh];split
  ·simp
  ·split
   ·have:=Je2 f (l.take (J94 l.length)) i;simp;omega
   ·have:=Je2 f (l.drop (J94 l.length)) (i - J94 l.length);simp;omega
theorem Jjw:∀(f:Nat) (l:List (List UInt8)) (i:Nat),∀x∈Jbh f l i,x.length=32
 |0,_,_,x,hx=>by simp[Jbh]at hx
 | f+1,l,i,x,hx=>by
  rw[Jbh]at hx;split at hx
  ·simp at hx
  ·split at hx
   ·rcases List.mem_append.1 hx with h|h
    ·exact Jjw f _ _ x h
    ·simp at h;rw[h];exact Jb4 _
   ·rcases List.mem_append.1 hx with h|h
    ·exact Jjw f _ _ x h
    ·simp at h;rw[h];exact Jb4 _
abbrev zT:List UInt8:=List.replicate 32 (0:UInt8)
def Jk1(a:List (List UInt8))(i:Nat):List (List UInt8):=(List.range a.length).map λj=>if j<i\/a.length - 1 - i<j then a.getD (a.length - 1 - j) zT else a.getD j zT
theorem Jcc(a:List (List UInt8))(i:Nat):(Jk1 a i).length=a.length:=by simp[Jk1]
theorem Jfb(a:List (List UInt8)) i j (h:j<a.length):(Jk1 a i).getD j zT=if j<i\/a.length - 1 - i<j then a.getD (a.length - 1 - j) zT else a.getD j zT:=by
 unfold Jk1
 grind
theorem Jrs{a b:List (List UInt8)}(hl:a.length=b.length)(h:∀j,j<a.length->a.getD j zT=b.getD j zT):a=b:=by
 apply List.ext_getElem hl
 grind
theorem Jhr(a:List (List UInt8)) i j x (h:i<a.length):(a.set i x).getD j zT=if i=j then x else a.getD j zT:=by
 grind
theorem K1o(a:List (List UInt8))(i:Nat)(h:i<a.length - 1 - i):((Jk1 a i).set i ((Jk1 a i).getD (a.length - 1 - i) zT)).set (a.length - 1 - i) ((Jk1 a i).getD i zT)=Jk1 a (i+1):=by
 apply Jrs (by simp[Jcc])
 intro j hj
 rw[List.length_set,List.length_set,Jcc]at hj
 rw[Jhr _ _ _ _ (by rw[List.length_set,Jcc];omega),Jhr _ _ _ _ (by rw[Jcc];omega),Jfb a i _ (by omega),Jfb a i _ (by omega),Jfb a i j hj,Jfb a (i+1) j hj]
 grind
theorem rev_eq(a:List (List UInt8))(ha:a.length<=1000000):Jm a=some a.reverse:=by
 have main:Jm_1 0 ((a.length:Int) - 1) a=some (Jk1 a (a.length / 2)):=by
  have h0:Jk1 a 0=a:=by
   apply Jrs (Jcc a 0)
   intro j hj
   rw[Jcc]at hj
   rw[Jfb a 0 j hj,oJ]
  unfold Jm_1
  have:=J8u (step:=λ(s:Int×Int×List (List UInt8))=>Jm_1_step s.1 s.2.1 s.2.2) (λi (_:Unit)=>((i:Int),(a.length:Int) - 1 - (i:Int),Jk1 a i)) (λ_ _=>()) (λ_=>Jk1 a (a.length / 2)) (a.length / 2) (λ_ _=>True) (λi w hi _=>⟨?_,trivial⟩) (λw _=> ?_) (a.length / 2) 0 () (by omega) trivial
  ·grind
  ·show Jm_1_step (i:Int) ((a.length:Int) - 1 - (i:Int)) (Jk1 a i)=_
   unfold Jm_1_step
   have hl:=Jcc a i
   have e1:Int.toNat ((a.length:Int) - 1 - (i:Int))=a.length - 1 - i:=by omega
   rw[oT,oN,oN,List.length_set,oN,e1,Int.toNat_natCast,oW,oW,K1o a i (by omega),show(a.length:Int) - 1 - (i:Int) - 1=(a.length:Int) - 1 - ((i+1:Nat):Int)from by omega]
   rfl
  ·show Jm_1_step ((a.length / 2:Nat):Int) ((a.length:Int) - 1 - ((a.length / 2:Nat):Int)) (Jk1 a (a.length / 2))=_
   unfold Jm_1_step
   rw[oF]
 unfold Jm
 rw[oW,main,J8f]
 congr 1
 apply Jrs (by rw[Jcc,List.length_reverse])
 intro j hj
 rw[Jcc]at hj
 rw[Jfb a _ j hj]
 grind
theorem Jof:∀(f:Nat) (l:List (List UInt8)) (i:Nat) (acc:List (List UInt8)),l.length<=f+1->l.length<64->i<l.length\/l.length=0->acc.length<=1000 - f->f<=100->Small l->J1r_1 l (i:Int) acc=some (acc++(Jbh f l i).reverse)
 |0,l,i,acc,h,h2,hi,ha,hf,hs=>by
  unfold J1r_1
  refine J9d ?_
  unfold J1r_1_step
  rw[J90 (by show ¬(1:Int)<(l.length:Int);omega)]
  simp[Jbh]
 | f +1,l,i,acc,h,h2,hi,ha,hf,hs=>by
  by_cases h1:l.length<=1
  ·rw[Jbh,if_pos h1]
   unfold J1r_1
   refine J9d ?_
   unfold J1r_1_step
   rw[J90 (by show ¬(1:Int)<(l.length:Int);omega)]
   simp
  ·obtain⟨b1,b2,b3⟩:=Jda l.length (by omega) (by omega)
   rw[Jbh,if_neg h1]
   by_cases hl:i<J94 l.length
   ·rw[if_pos hl,List.reverse_append,List.reverse_singleton,<-List.append_assoc]
    have hst:J1r_1_step l (i:Int) acc=some (.inl (l.take (J94 l.length),(i:Int),acc++[Jc1 (l.drop (J94 l.length))])):=by
     unfold J1r_1_step
     rw[oT,left_eq _ (by omega),J8f,oT,oN,Jbt,Jgu,Int.toNat_natCast,Jso _ (by rw[List.length_drop];omega) (Jdt hs _),J8f,J8i (by simp;omega),oN]
    rw[<-Jof f (l.take (J94 l.length)) i (acc++[Jc1 (l.drop (J94 l.length))]) (by rw[List.length_take];omega) (by rw[List.length_take];omega) (by rw[List.length_take];omega) (by simp;omega) (by omega) (Jdu hs _)]
    unfold J1r_1
    rw[J9v hst]
   ·rw[if_neg hl,List.reverse_append,List.reverse_singleton,<-List.append_assoc]
    have hst:J1r_1_step l (i:Int) acc=some (.inl (l.drop (J94 l.length),((i - J94 l.length:Nat):Int),acc++[Jc1 (l.take (J94 l.length))])):=by
     unfold J1r_1_step
     rw[oT,left_eq _ (by omega),J8f,oF,oN,Jbt,Jgu,Int.toNat_natCast,Jso _ (by rw[List.length_take];omega) (Jdu hs _),J8f,J8i (by simp;omega),oN,oW,
      show(i:Int) - ((J94 l.length:Nat):Int)=((i - J94 l.length:Nat):Int)from by omega]
    rw[<-Jof f (l.drop (J94 l.length)) (i - J94 l.length) (acc++[Jc1 (l.take (J94 l.length))]) (by rw[List.length_drop];omega) (by rw[List.length_drop];omega) (by rw[List.length_drop];omega) (by simp;omega) (by omega) (Jdt hs _)]
    unfold J1r_1
    rw[J9v hst]
noncomputable def Jdm(l:List (List UInt8))(i:Int):List (List UInt8):=if 0<=i/\i<(l.length:Int)then Jbh l.length l i.toNat else[]
theorem K5c(l:List (List UInt8))(i:Int)(h:l.length<64)(hs:Small l):J1r l i=some (Jdm l i):=by
 unfold J1r Jdm
 by_cases h0:i<0
 ·rw[J8w h0,oJ]
 ·rw[J90 h0]
  by_cases h1:(l.length:Int)<=i
  ·rw[J8w h1,oJ]
  ·rw[J90 h1,oI]
   obtain⟨k,rfl⟩:=Int.eq_ofNat_of_zero_le (show 0<=i by omega)
   have hl:=Je2 l.length l k
   rw[Jof l.length l k [] (by omega) h (by omega) (by simp) (by omega) hs,J8f]
   simp
   rw[rev_eq _ (by rw[List.length_reverse];omega),List.reverse_reverse]
   rfl
theorem Jld:∀(f i n:Nat) (acc:List Bool),n<=f+1->n<=1073741824->i<n\/n=0->acc.length<=10000000 - f->f<=5000000->J1g_1 (i:Int) (n:Int) acc=some (acc++J9u f i n)
 |0,i,n,acc,h,h2,hi,ha,hf=>by
  unfold J1g_1
  refine J9d ?_
  unfold J1g_1_step
  rw[J90 (by show ¬(1:Int)<(n:Int);omega)]
  simp[J9u]
 | f +1,i,n,acc,h,h2,hi,ha,hf=>by
  by_cases h1:n<=1
  ·rw[J9u,if_pos h1]
   unfold J1g_1
   refine J9d ?_
   unfold J1g_1_step
   rw[J90 (by show ¬(1:Int)<(n:Int);omega)]
   simp
  ·obtain⟨b1,b2,b3⟩:=Jda n (by omega) (by omega)
   rw[J9u,if_neg h1]
   by_cases hl:i<J94 n
   ·rw[if_pos hl,show acc++true::J9u f i (J94 n)=(acc++[true])++J9u f i (J94 n)from by simp]
    have hst:J1g_1_step (i:Int) (n:Int) acc=some (.inl ((i:Int),((J94 n:Nat):Int),acc++[true])):=by
     unfold J1g_1_step
     rw[oT,left_eq _ (by omega),J8f,J8i (by simp;omega),decide_eq_true (show(i:Int)<((J94 n:Nat):Int)by omega),Jbz]
    rw[<-Jld f i (J94 n) (acc++[true]) (by omega) (by omega) (by omega) (by simp;omega) (by omega)]
    unfold J1g_1
    rw[J9v hst]
   ·rw[if_neg hl,show acc++false::J9u f (i - J94 n) (n - J94 n)=(acc++[false])++J9u f (i - J94 n) (n - J94 n)from by simp]
    have hst:J1g_1_step (i:Int) (n:Int) acc=some (.inl (((i - J94 n:Nat):Int),((n - J94 n:Nat):Int),acc++[false])):=by
     unfold J1g_1_step
     rw[oT,left_eq _ (by omega),J8f,J8i (by simp;omega),decide_eq_false (show ¬(i:Int)<((J94 n:Nat):Int)by omega),J8y,oW,oW,
      show(i:Int) - ((J94 n:Nat):Int)=((i - J94 n:Nat):Int)from by omega,show(n:Int) - ((J94 n:Nat):Int)=((n - J94 n:Nat):Int)from by omega]
    rw[<-Jld f (i - J94 n) (n - J94 n) (acc++[false]) (by omega) (by omega) (by omega) (by simp;omega) (by omega)]
    unfold J1g_1
    rw[J9v hst]
theorem Ko(i n:Nat)(h:i<n)(hn:n<=1000000):J1g (i:Int) (n:Int)=some (J9u n i n):=by
 unfold J1g
 rw[Jld n i n [] (by omega) (by omega) (by omega) (by simp) (by omega)]
 rfl
def isS(i n:Int):Bool:=decide (0<=i)&&(decide (i<n)&&decide (n<=1048576))
theorem is_eq i n:J7y i n=some (isS i n):=by
 unfold J7y isS
 simp only[Jmb]
 grind
theorem Jit i n:isS i n=true↔0<=i/\i<n/\n<=1048576:=by
 unfold isS;simp
theorem K8b(i n:Int)(hn:n<=1000000\/1048576<n):J7t i n=some (if isS i n then((J9u n.toNat i.toNat n.toNat).length:Int)else -1):=by
 unfold J7t
 rw[is_eq,J8f]
 cases h:isS i n with
 |false=>rfl
 |true=>
  obtain⟨h1,h2,h3⟩:=(Jit i n).1 h
  obtain⟨a,rfl⟩:=Int.eq_ofNat_of_zero_le h1
  obtain⟨b,rfl⟩:=Int.eq_ofNat_of_zero_le (show 0<=n by omega)
  rw[Ko a b (by omega) (by omega)]
  rfl
def Jgt:List Bool->List (List UInt8)->List UInt8->List UInt8
 |b::bs,p::ps,h=>Jgt bs ps (if b then Jgz h p else Jgz p h)
 |_,_,h=>h
theorem Jdp:∀(bs:List Bool) (ps:List (List UInt8)) (h:List UInt8) (b:Bool) (p:List UInt8),bs.length=ps.length->Jgt (bs++[b]) (ps++[p]) h=if b then Jgz (Jgt bs ps h) p else Jgz p (Jgt bs ps h)
 |[],[],h,b,p,_=>rfl
 |x::bs,y::ps,h,b,p,e=>by
  show Jgt (bs++[b]) (ps++[p]) _=_
  rw[Jdp bs ps _ b p (by simpa using e)]
  rfl
 |[],_::_,_,_,_,e=>by simp at e
 |_::_,[],_,_,_,e=>by simp at e
theorem Jra:∀(bs:List Bool) (ps:List (List UInt8)) (h:List UInt8),h.length=32->(Jgt bs ps h).length=32
 |[],_,h,e=>by simpa[Jgt]using e
 |_::_,[],h,e=>by simpa[Jgt]using e
 |b::bs,p::ps,h,e=>by
  exact Jra bs ps _ (by split<;>exact Ja8 _)
theorem K0m(bs:List Bool)(ps:List (List UInt8)) h (i:Nat) (h1:i<bs.length) (h2:i<ps.length):
  Jgt (bs.take (i+1)) (ps.take (i+1)) h=if bs.getD i false then Jgz (Jgt (bs.take i) (ps.take i) h) (ps.getD i zT)else Jgz (ps.getD i zT) (Jgt (bs.take i) (ps.take i) h):=by
 rw[List.take_add_one,List.take_add_one,List.getElem?_eq_getElem h1,List.getElem?_eq_getElem h2,Option.toList_some,Option.toList_some,Jdp _ _ _ _ _ (by simp;omega)]
 grind
theorem Kfz(z h:List UInt8)(l:List Bool)(p:List (List UInt8))(hl:l.length=p.length)(hp:∀x∈p,x.length=32)(hh:h.length=32)(hb:p.length<=100000):J4p_1 p (p.length:Int) 0 z h l=some (z,Jgt l.reverse p h):=by
 have:=J8u (step:=λ(s:Int×List UInt8)=>J4p_1_step p (p.length:Int) s.1 z s.2 l) (λi (_:Unit)=>((i:Int),Jgt (l.reverse.take i) (p.take i) h)) (λ_ _=>()) (λ_=>(z,Jgt l.reverse p h)) p.length (λ_ _=>True) (λi w hi _=>⟨?_,trivial⟩) (λw _=> ?_) p.length 0 () (by omega) trivial
 ·exact this
 ·unfold J4p_1_step
  have hg:(p.getD i (List.replicate 32 0)).length=32:=by
   grind
  have hc:=Jra (l.reverse.take i) (p.take i) h hh
  have hr:l.getD (l.length - 1 - i) false=l.reverse.getD i false:=by
   grind
  rw[oT,oN,oX ((l.length:Int) - 1),oW,oN,show Int.toNat ((l.length:Int) - 1 - (i:Int))=l.length - 1 - i from by omega,hr,Int.toNat_natCast,Js3 _ _ hc hg,Js3 _ _ hg hc,J8f,J8f,oW,
   K0m _ _ _ _ (by rw[List.length_reverse];omega) hi]
  cases l.reverse.getD i false<;>rfl
 ·unfold J4p_1_step
  rw[oF,List.take_of_length_le (Nat.le_refl _),List.take_of_length_le (by rw[List.length_reverse];omega)]
def upS(leaf:List UInt8)(i n:Int)(p:List (List UInt8)):List UInt8×Bool:=
 if isS i n/\p.length=(J9u n.toNat i.toNat n.toNat).length then(Jgt (J9u n.toNat i.toNat n.toNat).reverse p (K12 leaf),true)else(zT,false)
theorem up_eq(leaf:List UInt8)(hf:leaf.length<=1000000) i n (hn:n<=1000000) (p:List (List UInt8)) (hp:∀x∈p,x.length=32) (hb:p.length<=100000):J4p leaf i n p=some (upS leaf i n p):=by
 unfold J4p upS
 rw[is_eq,J8f]
 cases h:isS i n with
 |false=>rw[if_neg (by simp)];rfl
 | true=>
  obtain⟨h1,h2,h3⟩:=(Jit i n).1 h
  rw[show(!true)=false from rfl,J8y,K8b i n (.inl hn),h,if_pos rfl,J8f]
  by_cases e:p.length=(J9u n.toNat i.toNat n.toNat).length
  ·rw[Jcq (by omega),if_pos ⟨rfl,e⟩,Jso [leaf] (by simp) (by intro x hx;simp at hx;rw[hx];exact hf),J8f]
   have hsd:=Ko i.toNat n.toNat (by omega) (by omega)
   rw[show((i.toNat:Nat):Int)=i from by omega,show((n.toNat:Nat):Int)=n from by omega]at hsd
   rw[hsd,J8f,Kfz _ _ _ _ e.symm hp (Jb4 _) hb,J8f,Jhe]
  ·rw[Jd9 (by omega),if_neg (λh=>e h.2)]
theorem Jsb:∀(f:Nat) (l:List (List UInt8)) (i:Nat),i<l.length->l.length<=f+1->l.length<=1000->Jgt (J9u f i l.length).reverse (Jbh f l i) (K12 (l.getD i []))=Jc1 l
 | 0,l,i,hi,h,h2=>by
  match l,hi,h with
  |[x],hi,h=>
   have:i=0:=by simp at hi;exact hi
   subst this
   rw[Jhe];rfl
 | f+1,l,i,hi,h,h2=>by
  rw[J9u,Jbh]
  by_cases h1:l.length<=1
  ·match l,hi,h1 with
   |[x],hi,h1=>
    have:i=0:=by simp at hi;exact hi
    subst this
    rw[Jhe];rfl
  ·obtain⟨b1,b2,b3⟩:=Jda l.length (by omega) (by omega)
   rw[if_neg h1,if_neg h1,Jou l (by omega) (by omega)]
   by_cases hl:i<J94 l.length
   ·rw[if_pos hl,if_pos hl,List.reverse_cons,Jdp _ _ _ _ _ (by rw[List.length_reverse,Jdr f _ _ (by rw[List.length_take];omega),List.length_take,Nat.min_eq_left (by omega)]),if_pos rfl]
    have ih:=Jsb f (l.take (J94 l.length)) i (by rw[List.length_take];omega) (by rw[List.length_take];omega) (by rw[List.length_take];omega)
    grind
   ·rw[if_neg hl,if_neg hl,List.reverse_cons,Jdp _ _ _ _ _ (by rw[List.length_reverse,Jdr f _ _ (by rw[List.length_drop];omega),List.length_drop]),if_neg (by simp)]
    have ih:=Jsb f (l.drop (J94 l.length)) (i - J94 l.length) (by rw[List.length_drop];omega) (by rw[List.length_drop];omega) (by rw[List.length_drop];omega)
    grind
theorem Juc:∀(f k n:Nat),n<=2*k*2^f->1<=k->n<=1073741824->k<=1073741824->J0h_1 (n:Int) (k:Int)=some ((Jpj f k n:Nat):Int)
 |0,k,n,h,h1,h2,hk=>by
  refine J9d ?_
  unfold J0h_1_step
  rw[oW,oF]
  rfl
 | f+1,k,n,h,h1,h2,hk=>by
  rw[Jpj]
  split
  ·rename_i hlt
   rw[<-Juc f (2*k) n (by rw[Nat.pow_succ]at h;rw[Jsd];exact h) (by omega) h2 (by omega)]
   have hs:J0h_1_step (n:Int) (k:Int)=some (.inl ((2*k:Nat):Int)):=by
    unfold J0h_1_step
    rw[oW,oT,show 2*(k:Int)=((2*k:Nat):Int)from by omega]
   unfold J0h_1
   rw[J9v hs]
  ·rename_i hlt
   refine J9d ?_
   unfold J0h_1_step
   rw[oW,oF]
theorem Jwv(n:Nat)(h:n<=1073741824):J0h (n:Int)=some ((J94 n:Nat):Int):=by
 unfold J0h
 rw[show(1:Int)=((1:Nat):Int)from rfl,Juc 40 1 n (by omega) (by omega) h (by omega)]
 rfl
theorem Jot(a b:List UInt8)(ha:a.length=32)(hb:b.length=32):Jb 1 [a,b]=some (Jgz a b):=by
 have hf:[a,b].flatten=a++b:=by simp
 rw[Ja3 _ _ (by rw[hf,List.length_append];omega) (by simp),hf]
 rfl
theorem Ka6(x:List UInt8)(hx:x.length<=1000000):Jb 0 [x]=some (K12 x):=by
 have hf:[x].flatten=x:=by simp
 rw[Ja3 _ _ (by rw[hf];omega) (by simp),hf]
 rfl
theorem Jl8:∀(k:Nat) (l:List (List UInt8)),l.length<k->l.length<=1000->Small l->J0l_f k l=some (Jc1 l)
 |0,l,h,_,_=>by omega
 | k+1,l,h,h2,hl=>by
  rw[J0l_f]
  match l,h,h2,hl with
  |[],h,h2,hl=>
   rw[Ja3 _ _ (by simp) (by simp),Jqp];rfl
  |[x],h,h2,hl=>
   have hx:=hl x (by simp)
   have hf:[List.getD [x] (Int.toNat (0:Int)) []].flatten=x:=by simp
   rw[J90 (by simp),Ja3 _ _ (by rw[hf];omega) (by simp),hf,Jhe];rfl
  | x::y::r,h,h2,hl=>
   have hn:2<=(x::y::r).length:=by simp
   generalize x::y::r=l at h h2 hl hn
   obtain⟨b1,b2,b3⟩:=Jda l.length hn (by omega)
   rw[oF,oF,Jwv _ (by omega),J8f,oN,Jgu,Jbt,Int.toNat_natCast,Jl8 k (l.take (J94 l.length)) (by rw[List.length_take];omega) (by rw[List.length_take];omega) (Jdu hl _),J8f,oN,
    Jl8 k (l.drop (J94 l.length)) (by rw[List.length_drop];omega) (by rw[List.length_drop];omega) (Jdt hl _),J8f,Jot _ _ (Jb4 _) (Jb4 _),J8f,Jou l hn (by omega)]
theorem Jk4(l:List (List UInt8))(h:l.length<64)(hl:Small l):J0l l=some (Jc1 l):=Jl8 64 l h (by omega) hl
theorem Jl7:∀(k:Nat) (l:List (List UInt8)) (i:Int),l.length<k->l.length<64->Small l->J1d_f k l i=some (if 0<=i/\i<(l.length:Int)then Jbh l.length l i.toNat else[])
 |0,l,i,h,_,_=>by omega
 | k + 1,l,i,h,h2,hl=>by
  rw[J1d_f]
  by_cases h0:i<0
  ·rw[J8w h0,oJ]
  ·rw [J90 h0]
   by_cases h1:(l.length:Int)<=i
   ·rw[J8w h1,oJ]
   ·rw [J90 h1,oI]
    by_cases h3:l.length=1
    ·rw[oT,h3,Jbh,oI]
    ·rw[oF,Jwv _ (by omega),J8f]
     obtain⟨b1,b2,b3⟩:=Jda l.length (by omega) (by omega)
     obtain⟨q,hq⟩:∃q,l.length=q+1:=⟨l.length - 1,by omega⟩
     have hp:Jbh l.length l i.toNat=if i.toNat<J94 l.length then Jbh q (l.take (J94 l.length)) i.toNat++[Jc1 (l.drop (J94 l.length))]else Jbh q (l.drop (J94 l.length)) (i.toNat - J94 l.length)++[Jc1 (l.take (J94 l.length))]:=by
      conv=>lhs;rw[hq]
      rw[Jbh,oJ]
     rw[hp]
     by_cases h4:i.toNat<J94 l.length
     ·have lt:(l.take (J94 l.length)).length=J94 l.length:=by rw[List.length_take];omega
      have hpl:=Je2 q (l.take (J94 l.length)) i.toNat
      rw[if_pos h4,oT,oN,Jgu,Jbt,Int.toNat_natCast,Jl7 k (l.take (J94 l.length)) i (by omega) (by omega) (Jdu hl _),J8f,oI,oN,Jk4 _ (by rw[List.length_drop];omega) (Jdt hl _),J8f,
       Jhu _ q _ _ (by omega) (by omega) (by omega),J8i (by simp;omega)]
     ·have ld:(l.drop (J94 l.length)).length=l.length - J94 l.length:=by rw[List.length_drop]
      have hpl:=Je2 q (l.drop (J94 l.length)) (i.toNat - J94 l.length)
      rw[if_neg h4,oF,oN,Jgu,Jbt,Int.toNat_natCast,oW,Jl7 k (l.drop (J94 l.length)) (i - ((J94 l.length:Nat):Int)) (by omega) (by omega) (Jdt hl _),J8f,oI,oN,Jk4 _ (by rw[List.length_take];omega) (Jdu hl _),J8f,
       show Int.toNat (i - ((J94 l.length:Nat):Int))=i.toNat - J94 l.length from by omega,Jhu _ q _ _ (by omega) (by omega) (by omega),J8i (by simp;omega)]
theorem Kg(l:List (List UInt8))(i:Int)(h:l.length<64)(hl:Small l):J1d l i=some (Jdm l i):=Jl7 64 l i h h hl
theorem Jg8:∀(f g i n:Nat),n<=f+1->n<=g+1->n<=1000->J9u f i n=J9u g i n
 |0,g,i,n,h,_,_=>by
  cases g with
  |zero=>rfl
  |succ g=>rw[J9u,J9u,if_pos h]
 |f+1,0,i,n,_,h,_=>by rw[J9u,J9u,if_pos h]
 | f+1,g+1,i,n,h,h2,h3=>by
  rw[J9u,J9u]
  by_cases h1:n<=1
  ·rw[if_pos h1,if_pos h1]
  ·obtain⟨b1,b2,b3⟩:=Jda n (by omega) (by omega)
   rw[if_neg h1,if_neg h1,Jg8 f g i (J94 n) (by omega) (by omega) (by omega),Jg8 f g (i - J94 n) (n - J94 n) (by omega) (by omega) (by omega)]
theorem Jsx:∀(k:Nat) (leaf:List UInt8) (i n:Nat) (p:List (List UInt8)),n<k->i<n->n<64->leaf.length<=1000000->(∀x∈p,x.length=32)->p.length<=100000->
  ∃x,J1c_f k leaf (i:Int) (n:Int) p=some (x,decide (p.length=(J9u n i n).length))/\x.length=32/\(p.length=(J9u n i n).length->x=Jgt (J9u n i n).reverse p (K12 leaf))
 |0,leaf,i,n,p,h,_,_,_,_,_=>by omega
 | k +1,leaf,i,n,p,h,hi,h2,hf,hp,hb=>by
  rw[J1c_f,oF,oF,oF]
  by_cases h1:n=1
  ·subst h1
   rw[oT,Ka6 leaf hf,J8f]
   have e:J9u 1 i 1=[]:=by rw[J9u,oI]
   rw[e]
   refine⟨K12 leaf, ?_,Ja8 _,λh=> ?_⟩
   ·rw[show decide ((p.length:Int)=0)=decide (p.length=([]:List Bool).length)from decide_eq_decide.2 (by simp)]
   ·have:p=[]:=List.eq_nil_of_length_eq_zero (by simpa using h)
    subst this;rfl
  ·obtain⟨b1,b2,b3⟩:=Jda n (by omega) (by omega)
   obtain⟨q,rfl⟩:∃q,n=q+1:=⟨n - 1,by omega⟩
   have hsd:J9u (q+1) i (q+1)=if i<J94 (q+1)then true::J9u q i (J94 (q+1))else false::J9u q (i - J94 (q+1)) (q+1 - J94 (q+1)):=by
    rw[J9u,oJ]
   rw[oF]
   by_cases h0:p.length=0
   ·rw[oT]
    refine⟨zT, ?_,by simp,λh=> ?_⟩
    ·rw[decide_eq_false (by rw[hsd];split<;>simp[h0])]
    ·exfalso
     rw[hsd]at h
     split at h<;>simp[h0]at h
   ·have hpl:p=p.take (p.length - 1)++[p.getD (p.length - 1) zT]:=by
     rw[List.getD_eq_getElem?_getD,List.getElem?_eq_getElem (by omega)]
     conv=>lhs;rw[<-List.take_append_drop (p.length - 1) p,List.drop_eq_getElem_cons (by omega),List.drop_of_length_le (by omega)]
     rfl
    have hg:(p.getD (p.length - 1) (List.replicate 32 0)).length=32:=by
     rw[List.getD_eq_getElem?_getD,List.getElem?_eq_getElem (by omega)];exact hp _ (List.getElem_mem _)
    have hpt:∀x∈p.take (p.length - 1),x.length=32:=λx hx=>hp x (List.mem_of_mem_take hx)
    have htl:(p.take (p.length - 1)).length=p.length - 1:=by rw[List.length_take];omega
    have e1:w64 ((p.length:Int) - 1)=((p.length - 1:Nat):Int):=by rw[oW];omega
    rw[oF,Jwv (q+1) (by omega),J8f,e1,oN,Jgu,Int.toNat_natCast]
    by_cases h4:i<J94 (q+1)
    ·obtain⟨x,x1,x2,x3⟩:=Jsx k leaf i (J94 (q+1)) (p.take (p.length - 1)) (by omega) h4 (by omega) hf hpt (by omega)
     rw[Jg8 _ q _ _ (by omega) (by omega) (by omega)]at x1 x3
     rw[oT,oN,x1,J8f]
     simp only
     rw[Jot _ _ x2 hg,J8f,hsd,if_pos h4]
     refine⟨Jgz x (p.getD (p.length - 1) (List.replicate 32 0)), ?_,Ja8 _,λh=> ?_⟩
     ·rw[show decide ((p.take (p.length - 1)).length=(J9u q i (J94 (q+1))).length)=decide (p.length=(true::J9u q i (J94 (q+1))).length)from decide_eq_decide.2 (by rw[htl,List.length_cons];omega)]
     ·rw[List.length_cons]at h
      rw[x3 (by omega),List.reverse_cons]
      conv=>rhs;rw[hpl]
      rw[Jdp _ _ _ _ _ (by rw[List.length_reverse];omega),if_pos rfl]
    ·obtain⟨x,x1,x2,x3⟩:=Jsx k leaf (i - J94 (q+1)) (q+1 - J94 (q+1)) (p.take (p.length - 1)) (by omega) (by omega) (by omega) hf hpt (by omega)
     rw[Jg8 _ q _ _ (by omega) (by omega) (by omega)]at x1 x3
     rw[oF,oN,oW,oW,show(i:Int) - ((J94 (q+1):Nat):Int)=((i - J94 (q+1):Nat):Int)from by omega,show((q+1:Nat):Int) - ((J94 (q+1):Nat):Int)=((q+1 - J94 (q+1):Nat):Int)from by omega,x1,J8f]
     simp only
     rw[Jot _ _ hg x2,J8f,hsd,if_neg h4]
     refine⟨Jgz (p.getD (p.length - 1) (List.replicate 32 0)) x, ?_,Ja8 _,λh=> ?_⟩
     ·rw[show decide ((p.take (p.length - 1)).length=(J9u q (i - J94 (q+1)) (q+1 - J94 (q+1))).length)=decide (p.length=(false::J9u q (i - J94 (q+1)) (q+1 - J94 (q+1))).length)from decide_eq_decide.2 (by rw[htl,List.length_cons];omega)]
     ·rw[List.length_cons]at h
      rw[x3 (by omega),List.reverse_cons]
      conv=>rhs;rw[hpl]
      rw[Jdp _ _ _ _ _ (by rw[List.length_reverse];omega),if_neg (by simp)]
theorem Kc5(leaf:List UInt8)(hf:leaf.length<=1000000) i n (hn:n<64) (p:List (List UInt8)) (hp:∀x∈p,x.length=32) (hb:p.length<=100000):∃x,J1c leaf i n p=some (x,(upS leaf i n p).2)/\((upS leaf i n p).2=true->x=(upS leaf i n p).1)/\x.length=32:=by
 unfold J1c
 by_cases h0:i<0
 ·rw[J1c_f,J8w h0]
  have:upS leaf i n p=(zT,false):=if_neg (λh=>by have:=(Jit i n).1 h.1;omega)
  rw[this]
  exact⟨_,rfl,λh=>(by cases h),rfl⟩
 ·by_cases h1:n<=i
  ·rw[J1c_f,J90 h0,J8w h1]
   have:upS leaf i n p=(zT,false):=if_neg (λh=>by have:=(Jit i n).1 h.1;omega)
   rw[this]
   exact⟨_,rfl,λh=>(by cases h),rfl⟩
  ·obtain⟨a,rfl⟩:=Int.eq_ofNat_of_zero_le (show 0<=i by omega)
   obtain⟨b,rfl⟩:=Int.eq_ofNat_of_zero_le (show 0<=n by omega)
   obtain⟨x,x1,x2,x3⟩:=Jsx 64 leaf a b p (by omega) (by omega) (by omega) hf hp hb
   have hi:isS (a:Int) (b:Int)=true:=(Jit _ _).2 (by omega)
   unfold upS
   simp only[Int.toNat_natCast,hi,true_and]
   by_cases e:p.length=(J9u b a b).length
   ·rw[if_pos e]
    rw[decide_eq_true e]at x1
    exact⟨x,x1,λ_=>x3 e,x2⟩
   ·rw[if_neg e]
    rw[decide_eq_false e]at x1
    exact⟨x,x1,λh=>(by cases h),x2⟩
abbrev Prf:=Int×Int×List Pr×List (List (List UInt8))×Unit
def Jh3(p:Pr):List UInt8:=Jvx p.1++Jvx p.2.1
def J9c(l:List Pr):List (List UInt8):=l.map Jh3
def Jy9(l:List Pr):Prop:=l.length<=60/\∀p∈l,p.1.length<=100000/\p.2.1.length<=100000
theorem J9n(l:List Pr):(J9c l).length=l.length:=by simp[J9c]
theorem Jjn(h:p.1.length<=100000/\p.2.1.length<=100000):(Jh3 p).length<=200100:=by
 have a:=Jgb p.1
 have b:=Jgb p.2.1
 unfold Jh3;rw[List.length_append];omega
theorem Jdj(h:Jy9 l):Small (J9c l):=by
 intro x hx
 obtain⟨p,hp,rfl⟩:=List.mem_map.1 hx
 have:=Jjn (h.2 p hp)
 omega
theorem Jx3(p:Pr)(h:p.1.length<=100000/\p.2.1.length<=100000):J6y p=some (Jh3 p):=by
 have:=Jt6 [p.1,p.2.1] (by simp) (λx hx=>by
  rcases List.mem_cons.1 hx with rfl|hx
  ·exact h.1
  ·rcases List.mem_cons.1 hx with rfl|hx
   ·exact h.2
   ·cases hx)
 have e:([p.1,p.2.1]:List (List UInt8)).flatMap Jvx=Jh3 p:=by simp[Jh3]
 rw[e]at this
 unfold J6y
 rw[this,J8f]
theorem Jh4(l:List Pr)(hi:i<l.length):J9c (l.take i)++[Jh3 (l.getD i zPr)]=J9c (l.take (i+1)):=by
 unfold J9c
 rw[List.take_add_one,List.map_append,List.getD_eq_getElem?_getD,List.getElem?_eq_getElem hi];rfl
theorem Jqv x0 (x1:Int) (x2:Int) x3 (x4:Int) (x5:Int) (x6:Int) (x7:Int) x8 (x9:Int) (x10:Int) x11 x12:J0u_1_step x0 x1 x2 x3 x4 x5 x6 x7 x8 x9 x10 x11 x12=
  (J8g (decide (x5<x4)) (need (0<=x5/\x5<(List.length x3:Int)) (J8e (J6y (List.getD x3 (Int.toNat x5) zPr)) (λu5=>need (List.length x12+List.length ([u5]:List (List UInt8))<=2147483648) (some (.inl ((w64 (x5+(1:Int))),(x12++([u5]:List (List UInt8))))))))) (some (.inr (x0,x1,x2,x6,x7,x8,x9,x10,x11,x12))):Option ((Int×List (List UInt8))⊕((List Pr)×Int×Int×Int×Int×Unit×Int×Int×Unit×List (List UInt8)))):=rfl
theorem Jqw x0 (x1:Int) (x2:Int) (x3:Int) (x4:Int) x5 (x6:Int) (x7:Int) x8 x9 x10 x11:J0u_2_step x0 x1 x2 x3 x4 x5 x6 x7 x8 x9 x10 x11=
  (J8g (decide (x2<x1)) (need (0<=x2/\x2<(List.length x0:Int)) (need (List.length x9+List.length ([(List.getD x0 (Int.toNat x2) zPr)]:List Pr)<=2147483648) (J8e (J1r x11 x2) (λu14=>need (List.length x10+List.length ([u14]:List (List (List UInt8)))<=2147483648) (some (.inl ((w64 (x2+(1:Int))),(x9++([(List.getD x0 (Int.toNat x2) zPr)]:List Pr)),(x10++([u14]:List (List (List UInt8))))))))))) (some (.inr (x3,x4,x5,x6,x7,x8,x9,x10))):Option ((Int×(List Pr)×List (List (List UInt8)))⊕(Int×Int×Unit×Int×Int×Unit×(List Pr)×List (List (List UInt8))))):=rfl
noncomputable def Jde(l:List Pr)(f n:Nat):List (List (List UInt8)):=(List.range n).map λj=>Jdm (J9c l) ((f+j:Nat):Int)
noncomputable def Jbb(l:List Pr)(f t:Nat):Prf:=if t<=f then((l.length:Int),0,[],[],())else((l.length:Int),(f:Int),(l.drop f).take (t - f),Jde l f (t - f),())
theorem Jxh l f n:Jde l f (n+1)=Jde l f n++[Jdm (J9c l) ((f+n:Nat):Int)]:=by
 unfold Jde
 rw[List.range_succ,List.map_append];rfl
theorem Jia(l:List Pr)(h:f+n<l.length):(l.drop f).take (n+1)=(l.drop f).take n++[l.getD (f+n) zPr]:=by
 rw[List.take_add_one,List.getElem?_drop,List.getD_eq_getElem?_getD,List.getElem?_eq_getElem h];rfl
theorem Jzw(l:List Pr)(h:Jy9 l) a b:J0u l a b=some (Jbb l (max a 0).toNat (min b (l.length:Int)).toNat):=by
 have hl:=h.1
 unfold J0u
 by_cases c:min b (l.length:Int)<=max a 0
 ·rw[J8w c]
  unfold Jbb
  rw[oI]
 ·rw[J90 c]
  have ef:max a 0=(((max a 0).toNat:Nat):Int):=by omega
  have et:min b (l.length:Int)=(((min b (l.length:Int)).toNat:Nat):Int):=by omega
  generalize hF:(max a 0).toNat=F at*
  generalize hT:(min b (l.length:Int)).toNat=T at*
  rw[ef,et]
  rw[ef,et]at c
  have hFT:F<T:=by omega
  have hTl:T<=l.length:=by omega
  clear hF hT ef et c
  have m1:J0u_1 l (F:Int) (T:Int) l (l.length:Int) 0 0 0 () (l.length:Int) 0 () []=some (l,(F:Int),(T:Int),0,0,(),(l.length:Int),0,(),J9c l):=by
   unfold J0u_1
   have:=J8u (step:=λ(s:Int×List (List UInt8))=>J0u_1_step l (F:Int) (T:Int) l (l.length:Int) s.1 0 0 () (l.length:Int) 0 () s.2) (λi (_:Unit)=>((i:Int),J9c (l.take i))) (λ_ _=>()) (λ_=>(l,(F:Int),(T:Int),0,0,(),(l.length:Int),0,(),J9c l)) l.length (λ_ _=>True) (λi w hi _=>⟨?_,trivial⟩) (λw _=> ?_) l.length 0 () (by omega) trivial
   ·exact this
   ·rw[Jqv,oT,oN,Int.toNat_natCast,Jx3 _ (h.2 _ (Jae hi)),J8f,J8i (by rw[J9n,List.length_take];simp;omega),Jh4 l hi,oW]
    rfl
   ·rw[Jqv,oF,List.take_of_length_le (Nat.le_refl _)]
  have m2:J0u_2 l (T:Int) (F:Int) 0 0 () (l.length:Int) (F:Int) () [] [] (J9c l)=some (0,0,(),(l.length:Int),(F:Int),(),(l.drop F).take (T - F),Jde l F (T - F)):=by
   unfold J0u_2
   have:=J8u (step:=λ(s:Int×(List Pr)×List (List (List UInt8)))=>J0u_2_step l (T:Int) s.1 0 0 () (l.length:Int) (F:Int) () s.2.1 s.2.2 (J9c l)) (λi (_:Unit)=>(((F+i:Nat):Int),(l.drop F).take i,Jde l F i)) (λ_ _=>()) (λ_=>(0,0,(),(l.length:Int),(F:Int),(),(l.drop F).take (T - F),Jde l F (T - F))) (T - F) (λ_ _=>True) (λi w hi _=>⟨?_,trivial⟩) (λw _=> ?_) (T - F) 0 () (by omega) trivial
   ·exact this
   ·have e1:((l.drop F).take i).length<=60:=by rw[List.length_take,List.length_drop];omega
    have e2:(Jde l F i).length=i:=by simp[Jde]
    rw[Jqw,oT,oN,Int.toNat_natCast,J8i (by simp;omega),K5c (J9c l) _ (by rw[J9n];omega) (Jdj h),J8f,J8i (by simp;omega),oW,<-Jia l (by omega),<-Jxh]
    congr 3
   ·rw[Jqw,oF]
  rw[m1,J8f]
  simp only
  rw[m2,J8f]
  unfold Jbb
  rw[oJ]
theorem Jsj(l:List Pr)(h:Jy9 l)(hr:Jb6 l) a b:J6w l a b=some (Jbb l (J8o l a - 1) (min (J8o l (maxS a b)+1) l.length)):=by
 have hl:=h.1
 have h1:=below_le l a
 have h2:=below_le l (maxS a b)
 unfold J6w
 rw[Jh1 l hr (by omega),J8f,Jh1 l hr (by omega),J8f,oW,oW,Jzw l h,J8f]
 congr 2<;>omega
theorem Jyy l (h:Jy9 l) (hr:Jb6 l) k:J7l l k=some (if Ji5 l k then(Jbb l (J8o l k) (J8o l k+1),true)else((0,0,[],[],()),false)):=by
 have hl:=h.1
 unfold J7l
 rw[Jfx l hr (by omega),J8f]
 cases c:Ji5 l k with
 |false=>rfl
 |true=>
  have:=c
  unfold Ji5 at this
  rw[decide_eq_true_eq]at this
  rw[if_pos rfl,Bool.not_true,J8y,Jh1 l hr (by omega),J8f,oW,Jzw l h,J8f]
  congr 3<;>omega
theorem Juq a:maxS a a=a:=by unfold maxS;cases J97 a a<;>rfl
theorem Jtj(l:List Pr)(h:Jy9 l)(hr:Jb6 l) k:J7a l k=some (if Ji5 l k then((0,0,[],[],()),false)else(Jbb l (J8o l k - 1) (min (J8o l k+1) l.length),true)):=by
 have hl:=h.1
 unfold J7a
 rw[Jfx l hr (by omega),J8f]
 cases c:Ji5 l k with
 |true=>rfl
 |false=>
  rw[if_neg (by simp),J8y,Jsj l h hr,Juq,J8f,if_neg (by simp)]
theorem Jzs(l:List Pr)(h:l.length<=60) f n:(Jde l f n).length=n/\∀x∈Jde l f n,x.length<=60:=by
 refine⟨by simp[Jde],λx hx=> ?_⟩
 obtain⟨j,_,rfl⟩:=List.mem_map.1 hx
 unfold Jdm
 split
 ·have:=Je2 (J9c l).length (J9c l) ((f+j:Nat):Int).toNat
  rw[J9n]at this⊢;omega
 ·exact Nat.zero_le _
theorem Jkh a lo hi (h:lo<=hi) (h1: -1099511627776<=lo) (h2:hi<=1099511627776):∃r,J6 a lo hi=some r/\lo<=r/\r<=hi:=by
 unfold J6
 have hn:w64 (w64 (hi - lo)+1)=hi - lo+1:=by simp (disch:=omega)only[J9t]
 rw[hn,oN]
 have hb:Int.tmod a (hi - lo+1)<hi - lo+1/\ -(hi - lo+1)<Int.tmod a (hi - lo+1):=by
  constructor
  ·exact Int.tmod_lt_of_pos a (by omega)
  ·have:=Int.tmod_lt_of_pos (-a) (b:=hi - lo+1) (by omega)
   rw[Int.neg_tmod]at this;omega
 generalize Int.tmod a (hi - lo+1)=t at hb
 by_cases ht:t<0
 ·rw[J8w ht]
  simp (disch:=omega)only[J9t]
  exact⟨_,rfl,by omega,by omega⟩
 ·rw[J90 ht]
  simp (disch:=omega)only[J9t]
  exact⟨_,rfl,by omega,by omega⟩
def nm(i:Nat):List UInt8:=([[118,97],[118,98],[118,99],[118,100]]:List (List UInt8)).getD i []
def ky(i:Nat):List UInt8:=List.set (List.replicate 32 (0:UInt8)) 0 (UInt8.ofNat (Int.toNat (((i:Int)+1)%256)))
def wv(a:Int):Int:=(J6 a 1 9).getD 1
theorem wv_eq(a:Int):J6 a 1 9=some (wv a)/\1<=wv a/\wv a<=9:=by
 obtain⟨r,h,h1,h2⟩:=Jkh a 1 9 (by omega) (by omega) (by omega)
 unfold wv;rw[h];exact⟨rfl,h1,h2⟩
def pw(ps:List Int)(i:Nat):Int:=if i<ps.length then wv (ps.getD i 0)else 1
theorem pw_b ps (i:Nat):1<=pw ps i/\pw ps i<=9:=by
 unfold pw;split
 ·exact(wv_eq _).2
 ·omega
def Jpc(ps:List Int):Nat:=max 1 (min 4 ps.length)
def Jx9(p:Nat->Int)(i:Nat):Val:=(nm i,p i,ky i,())
def setS(ps:List Int):List Val:=(List.range (Jpc ps)).map (Jx9 (pw ps))
def Jla(ps:List Int)(i:Nat)(l:List Val):List Val:=if i=0\/i<ps.length then l++[Jx9 (pw ps) i]else l
theorem Kfi ps:J9s (Jla ps) 0 4 []=setS ps:=by
 unfold setS Jpc
 simp only[J9s,Jla]
 by_cases h3:3<ps.length
 ·rw[show max 1 (min 4 ps.length)=4 from by omega];simp[h3,show 1<ps.length from by omega,show 2<ps.length from by omega,List.range_succ]
 ·by_cases h2:2<ps.length
  ·rw[show max 1 (min 4 ps.length)=3 from by omega];simp[h3,h2,show 1<ps.length from by omega,List.range_succ]
  ·by_cases h1:1<ps.length
   ·rw[show max 1 (min 4 ps.length)=2 from by omega];simp[h3,h2,h1,List.range_succ]
   ·rw[show max 1 (min 4 ps.length)=1 from by omega];simp[h3,h2,h1]
theorem set_eq(ps:List Int)(hp:ps.length<=140737488351232):J18 ps=some (setS ps):=by
 unfold J18 J54
 have main:J18_1 ps 4 0 [] [[118,97],[118,98],[118,99],[118,100]]=some (J9s (Jla ps) 0 4 []):=by
  refine J8u (step:=λ(s:Int×List Val)=>J18_1_step ps 4 s.1 s.2 [[118,97],[118,98],[118,99],[118,100]]) (λi l=>((i:Int),l)) (Jla ps) (λl=>l) 4 (λi l=>l.length<=i) (λi l hi hl=>⟨?_, ?_⟩) (λl hl=> ?_) 4 0 [] (by omega) (by simp)
  ·unfold J18_1_step
   have hlen:List.length [([118,97]:List UInt8),[118,98],[118,99],[118,100]]=4:=rfl
   have hw:=(wv_eq (ps.getD i 0)).1
   have ho:∀x:Val,List.length [x]=1:=λ_=>rfl
   simp (disch:=omega)only[hlen,J8w,J8i,Int.toNat_natCast,J9t,hw,J8f,ho]
   unfold Jla Jx9 pw
   by_cases h0:i=0
   ·rw[oT,if_pos (Or.inl h0)]
    by_cases hc:i<ps.length
    ·rw[oT,oN,if_pos hc];rfl
    ·rw[oF,if_neg hc];rfl
   ·rw[oF]
    by_cases hc:i<ps.length
    ·rw[oT,oN,if_pos (Or.inr hc),if_pos hc];rfl
    ·rw[oF,oJ];rfl
  ·unfold Jla
   split
   ·simp;omega
   ·omega
  ·rfl
 show J8e (J18_1 ps 4 0 [] [[118,97],[118,98],[118,99],[118,100]]) _=_
 rw[main,J8f,Kfi]
theorem Jlx x0 (x1:Int) (x2:Int) x3:J0f_1_step x0 x1 x2 x3=
  (J8g (decide (x2<x1)) (need (0<=x2/\x2<(List.length x0:Int)) (J8e (J29 (List.getD x0 (Int.toNat x2) zPr)) (λu4=>need (List.length x3+List.length ([u4]:List (List UInt8))<=2147483648) (some (.inl ((w64 (x2+(1:Int))),(x3++([u4]:List (List UInt8))))))))) (some (.inr x3)):Option ((Int×List (List UInt8))⊕(List (List UInt8)))):=rfl
theorem Jsi(p:Pr)(h:p.1.length<=100000/\p.2.1.length<=100000):J29 p=some (Jh3 p):=by
 have a:=Jgb p.1
 have b:=Jgb p.2.1
 unfold J29
 rw[Jsv _ h.1,J8f,Jsv _ h.2,J8f,oN];rfl
theorem Jqn l (h:Jy9 l):J0f l=some (J9c l):=by
 have hl:=h.1
 have m1:J0f_1 l (l.length:Int) 0 []=some (J9c l):=by
  have:=J8u (step:=λ(s:Int×List (List UInt8))=>J0f_1_step l (l.length:Int) s.1 s.2) (λi (_:Unit)=>((i:Int),J9c (l.take i))) (λ_ _=>()) (λ_=>J9c l) l.length (λ_ _=>True) (λi w hi _=>⟨?_,trivial⟩) (λw _=> ?_) l.length 0 () (by omega) trivial
  ·exact this
  ·rw[Jlx,oT,oN,Int.toNat_natCast,Jsi _ (h.2 _ (Jae hi)),J8f,J8i (by rw[J9n];simp;omega),Jh4 l hi,oW]
   rfl
  ·rw[Jlx,oF,List.take_of_length_le (Nat.le_refl _)]
 unfold J0f
 rw[m1,J8f]
def Jnq:List (List UInt8):=[[97],[97,98],[97,98,99],[98],[98,97],[115,47,97],[115,47,98],[115,47,99],[116],[117],[122],[122,122]]
theorem Ke1:J5x=some Jnq:=rfl
theorem Ke2(n:Int):∃i,i<12/\J30 n=some (Jnq.getD i []):=by
 obtain⟨r,er,r1,r2⟩:=Jkh n 0 11 (by omega) (by omega) (by omega)
 refine⟨r.toNat,by omega, ?_⟩
 have hk:Jnq.length=12:=rfl
 unfold J30
 rw[Ke1,J8f,J8f,hk,show w64 (((12:Nat):Int) - 1)=11 from rfl,er,J8f,oN]
theorem K99(n:Int):∃x,J3p n=some x/\x.length<=8:=by
 obtain⟨r,er,r1,r2⟩:=Jkh n 0 4 (by omega) (by omega) (by omega)
 unfold J3p
 rw[er,J8f,J8i (by show 0<=r/\r<((5:Nat):Int);omega)]
 refine⟨_,rfl, ?_⟩
 have:∀i,i<5->(([([]:List UInt8),([49]:List UInt8),([120]:List UInt8),([118,97,108,117,101]:List UInt8),([49,50,51,52,53,54,55,56]:List UInt8)]:List (List UInt8)).getD i []).length<=8:=by decide
 exact this r.toNat (by omega)
def K7o(l:List Pr):Prop:=Jb6 l/\l.length<=12/\(∀p∈l,p.1∈Jnq)/\∀p∈l,p.2.1.length<=8
theorem Kbm:∀k∈Jnq,1<=k.length/\k.length<=3:=by decide
theorem row_kv(h:K7o l):Jy9 l:=⟨by have:=h.2.1;omega,λp hp=>⟨by have:=Kbm _ (h.2.2.1 p hp);omega,by have:=h.2.2.2 p hp;omega⟩⟩
abbrev zH:List UInt8:=List.replicate 32 (0:UInt8)
def Kae(seed:List UInt8)(i v:Nat):List UInt8:=sha (115::(seed++[UInt8.ofNat i,UInt8.ofNat v]))
def Jzx(s:List UInt8):List UInt8:=sha (112::s)
def Kbk(ps:List (List UInt8)):List UInt8:=sha (107::ps.flatten)
def Jjd(m:List UInt8):List UInt8:=sha (109::m)
def Jll(d:List UInt8)(i:Nat):Nat:=((d.getD (i / 8) 0).toNat>>>(7 - i%8))%2
theorem Jkp d (i:Nat):Jll d i<=1:=by unfold Jll;omega
abbrev One:=List (List UInt8)×List (List UInt8)×Unit
theorem Kj(seed:List UInt8)(hs:seed.length=32)(i v:Nat)(hi:i<256)(hv:v<256):J5w seed (i:Int) (v:Int)=some (Kae seed i v):=by
 unfold J5w
 have hf:[seed,[UInt8.ofNat (Int.toNat ((i:Int)%256)),UInt8.ofNat (Int.toNat ((v:Int)%256))]].flatten=seed++[UInt8.ofNat i,UInt8.ofNat v]:=by
  rw[Jcg,Jcg];simp
 rw[Jb5 _ _ (by rw[hf];simp;omega) (by simp),hf]
 rfl
theorem Jzy(s:List UInt8)(hs:s.length=32):J5v s=some (Jzx s):=by
 unfold J5v
 have hf:[s].flatten=s:=by simp
 rw[Jb5 _ _ (by rw[hf];omega) (by simp),hf]
 rfl
theorem Jg7 seed i v:(Kae seed i v).length=32:=Ja8 _
theorem Jsf s:(Jzx s).length=32:=Ja8 _
theorem Jzc s:(Kbk s).length=32:=Ja8 _
theorem Jz5(m:List (List UInt8))(hm:∀x∈m,x.length=32):m.flatten.length=32*m.length:=by
 induction m with
 |nil=>rfl
 |cons a m ih=>rw[List.flatten_cons,List.length_append,ih (λx hx=>hm x (List.mem_cons_of_mem _ hx)),hm a List.mem_cons_self,List.length_cons];omega
theorem Ju7(l:List (List UInt8))(h:i<l.length):(l.take i).flatten++l.getD i zH=(l.take (i+1)).flatten:=by
 rw[List.take_add_one,List.flatten_append,List.getD_eq_getElem?_getD,List.getElem?_eq_getElem h]
 simp
theorem Jji(l:List (List UInt8))(h:∀x∈l,x.length=32)(i:Nat):(l.getD i zH).length=32:=by
 grind
theorem Kbl(l:List (List UInt8))(hl:l.length<=1000)(h:∀x∈l,x.length=32):J4g l=some (Kbk l):=by
 have hlen:∀i,((l.take i).flatten).length<=32*l.length:=λi=>by
  rw[Jz5 _ λx hx=>h x (List.mem_of_mem_take hx),List.length_take];omega
 have main:∀z,J4g_1 l (l.length:Int) 0 z []=some (z,l.flatten):=by
  intro z
  have:=J8u (step:=λ(s:Int×List UInt8)=>J4g_1_step l (l.length:Int) s.1 z s.2) (λi (_:Unit)=>((i:Int),(l.take i).flatten)) (λ_ _=>()) (λ_=>(z,l.flatten)) l.length (λ_ _=>True) (λi w hi _=>⟨?_,trivial⟩) (λw _=> ?_) l.length 0 () (by omega) trivial
  ·exact this
  ·show J4g_1_step l (l.length:Int) (i:Int) z (l.take i).flatten=_
   unfold J4g_1_step
   have b:=hlen i
   have hm:(l.getD i (List.replicate 32 0)).length=32:=Jji l h i
   rw[oT,oN,Int.toNat_natCast,oN,oW,Ju7 l hi]
   rfl
  ·unfold J4g_1_step
   rw[oF,List.take_of_length_le (Nat.le_refl _)]
 unfold J4g
 have hf:[l.flatten].flatten=l.flatten:=by simp
 have:=Jz5 l h
 rw[main,J8f]
 simp only
 rw[Jb5 _ _ (by rw[hf];omega) (by simp),hf]
 rfl
theorem Kb7 d (i:Nat) (hi:i<256):J7v d (i:Int)=some ((Jll d i:Nat):Int):=by
 unfold J7v
 have e1:Int.tdiv (i:Int) 8=((i / 8:Nat):Int):=by rw[Int.tdiv_eq_ediv_of_nonneg (by omega)];omega
 have e2:Int.tmod (i:Int) 8=((i%8:Nat):Int):=by rw[Int.tmod_eq_emod_of_nonneg (by omega)];omega
 rw[e1,e2,oW,oW,oN,oN,Int.toNat_natCast,show Int.toNat (7 - ((i%8:Nat):Int))=7 - i%8 from by omega]
 generalize hx:d.getD (i / 8) 0=x
 have hlt:=x.toNat_lt
 have hs:x.toNat>>>(7 - i%8)<=x.toNat:=by rw[Nat.shiftRight_eq_div_pow];exact Nat.div_le_self _ _
 rw[UInt8.toNat_ofNat',Nat.mod_eq_of_lt (by omega)]
 have hb:=Jr4 (x.toNat>>>(7 - i%8)) 1 (by omega) (by omega)
 rw[show((1:Nat):Int)=1 from rfl]at hb
 rw[hb,show(1:Nat)=2^1 - 1 from rfl,Nat.and_two_pow_sub_one_eq_mod]
 unfold Jll
 rw[hx]
def K1f(seed:List UInt8)(i:Nat):List (List UInt8):=[Jzx (Kae seed i 0),Jzx (Kae seed i 1)]
def Jdb(seed:List UInt8)(n:Nat):List (List UInt8):=(List.range n).flatMap (K1f seed)
theorem Jjv seed (n:Nat):(∀x∈Jdb seed n,x.length=32)/\(Jdb seed n).length=2*n:=by
 unfold Jdb
 refine⟨λx hx=> ?_, ?_⟩
 ·obtain⟨i,_,hi⟩:=List.mem_flatMap.1 hx
  simp only[K1f,List.mem_cons,List.not_mem_nil,or_false]at hi
  rcases hi with rfl|rfl<;>exact Jsf _
 ·induction n with
  |zero=>rfl
  |succ n ih=>rw[List.range_succ,List.flatMap_append,List.length_append,ih];simp[K1f];omega
theorem Jnf:∀{l:List α},(∀a∈l,f a=g a)->l.flatMap f=l.flatMap g
 |[],_=>rfl
 |a::l,h=>by rw[List.flatMap_cons,List.flatMap_cons,h a List.mem_cons_self,Jnf λb hb=>h b (List.mem_cons_of_mem _ hb)]
theorem Jgx(f:Nat->List α)(n:Nat):(List.range (n+1)).flatMap f=(List.range n).flatMap f++f n:=by
 rw[List.range_succ];simp
def K7a(seed:List UInt8):List UInt8:=Kbk (Jdb seed 32)
theorem Key_eq(seed:List UInt8)(hs:seed.length=32):J5b seed=some (K7a seed):=by
 have main:∀z,J5b_1 0 seed z []=some (z,Jdb seed 32):=by
  intro z
  have:=J8u (step:=λ(s:Int×List (List UInt8))=>J5b_1_step s.1 seed z s.2) (λi (_:Unit)=>((i:Int),Jdb seed i)) (λ_ _=>()) (λ_=>(z,Jdb seed 32)) 32 (λ_ _=>True) (λi w hi _=>⟨?_,trivial⟩) (λw _=> ?_) 32 0 () (by omega) trivial
  ·exact this
  ·unfold J5b_1_step
   have hl:=(Jjv seed i).2
   have s0:=Kj seed hs i 0 (by omega) (by omega)
   have s1:=Kj seed hs i 1 (by omega) (by omega)
   rw[show((0:Nat):Int)=0 from rfl]at s0
   rw[show((1:Nat):Int)=1 from rfl]at s1
   rw[oT,s0,J8f,Jzy _ (Jg7 _ _ _),J8f,s1,J8f,Jzy _ (Jg7 _ _ _),J8f,J8i (by simp;omega),oW]
   unfold Jdb
   rw[Jgx]
   rfl
  ·unfold J5b_1_step
   rw[oF]
 unfold J5b
 obtain⟨h1,h2⟩:=Jjv seed 32
 rw[main,J8f]
 simp only
 rw[Kbl _ (by omega) h1]
 rfl
def Jgl(seed d:List UInt8)(n:Nat):List (List UInt8):=(List.range n).map λi=>Kae seed i (Jll d i)
def Jgm(seed d:List UInt8)(n:Nat):List (List UInt8):=(List.range n).map λi=>Jzx (Kae seed i (1 - Jll d i))
def Jpm(seed m:List UInt8):One:=(Jgl seed (Jjd m) 32,Jgm seed (Jjd m) 32,())
theorem mapRange(f:Nat->α)(n:Nat):(List.range (n+1)).map f=(List.range n).map f++[f n]:=by
 rw[List.range_succ,List.map_append];rfl
theorem Kbc(m:List UInt8)(hm:m.length<=100000):J0c 109 [m]=some (Jjd m):=by
 have hf:[m].flatten=m:=by simp
 rw[Jb5 _ _ (by rw[hf];omega) (by simp),hf]
 rfl
theorem Kfm(seed m:List UInt8)(hs:seed.length=32)(hm:m.length<=100000):J4k seed m=some (Jpm seed m):=by
 have main:∀d,J4k_1 0 seed () () [] [] d=some ((),(),Jgl seed d 32,Jgm seed d 32):=by
  intro d
  have:=J8u (step:=λ(s:Int×List (List UInt8)×List (List UInt8))=>J4k_1_step s.1 seed () () s.2.1 s.2.2 d) (λi (_:Unit)=>((i:Int),Jgl seed d i,Jgm seed d i)) (λ_ _=>()) (λ_=>((),(),Jgl seed d 32,Jgm seed d 32)) 32 (λ_ _=>True) (λi w hi _=>⟨?_,trivial⟩) (λw _=> ?_) 32 0 () (by omega) trivial
  ·exact this
  ·unfold J4k_1_step
   have hb:=Jkp d i
   have lo:(Jgl seed d i).length=i:=by simp[Jgl]
   have ls:(Jgm seed d i).length=i:=by simp[Jgm]
   rw[oT,Kb7 d i (by omega),J8f,Kj seed hs i _ (by omega) (by omega),J8f,J8i (by simp;omega),oW,show(1:Int) - ((Jll d i:Nat):Int)=((1 - Jll d i:Nat):Int)from by omega,
    Kj seed hs i _ (by omega) (by omega),J8f,Jzy _ (Jg7 _ _ _),J8f,J8i (by simp;omega),oW]
   unfold Jgl Jgm
   rw[mapRange,mapRange]
   rfl
  ·unfold J4k_1_step
   rw[oF]
 unfold J4k
 rw[Kbc m hm,J8f,main,J8f]
 rfl
def Jlg(d:List UInt8)(o s:List (List UInt8))(i:Nat):List (List UInt8):=if Jll d i=0 then[Jzx (o.getD i zH),s.getD i zH]else[s.getD i zH,Jzx (o.getD i zH)]
def Jed(d:List UInt8)(o s:List (List UInt8)):List (List UInt8):=(List.range 32).flatMap (Jlg d o s)
def Len32(l:List (List UInt8)):Prop:=∀x∈l,x.length=32
def Jvy(m:List UInt8)(x:One):List UInt8×Bool:=if x.1.length=32/\x.2.1.length=32 then(Kbk (Jed (Jjd m) x.1 x.2.1),true)else(zH,false)
theorem K76 d o s (i:Nat):(Jlg d o s i).length=2:=by unfold Jlg;split<;>rfl
theorem Jfi d o s:∀n,((List.range n).flatMap (Jlg d o s)).length=2*n
 |0=>rfl
 |n+1=>by rw[Jgx,List.length_append,Jfi d o s n,K76];omega
theorem Jqz d o s (hs:Len32 s) (n:Nat):Len32 ((List.range n).flatMap (Jlg d o s)):=by
 intro x hx
 obtain⟨i,_,hi⟩:=List.mem_flatMap.1 hx
 unfold Jlg at hi
 split at hi<;>simp at hi<;>rcases hi with rfl|rfl<;>first|exact Jsf _|exact Jji s hs i
theorem Kn(a l:List α)(k:Nat) x (n:Nat) (h:n=a.length+k):(a++l).set n x=a++l.set k x:=by
 subst h;exact Jxu a l k x
theorem who_1 d z (x:One) (ho:x.1.length=32) (hs:x.2.1.length=32) (lo:Len32 x.1):J4w_1 0 x z d (List.replicate 64 zH)=some (z,Jed d x.1 x.2.1):=by
 unfold J4w_1
 have:=J8u (step:=λ(s:Int×List (List UInt8))=>J4w_1_step s.1 x z d s.2) (λi (_:Unit)=>((i:Int),(List.range i).flatMap (Jlg d x.1 x.2.1)++List.replicate (64 - 2*i) zH)) (λ_ _=>()) (λ_=>(z,Jed d x.1 x.2.1)) 32 (λ_ _=>True) (λi w hi _=>⟨?_,trivial⟩) (λw _=> ?_) 32 0 () (by omega) trivial
 ·exact this
 ·unfold J4w_1_step
  have hb:=Jkp d i
  have hl:=Jfi d x.1 x.2.1 i
  have hlen:((List.range i).flatMap (Jlg d x.1 x.2.1)++List.replicate (64 - 2*i) zH).length=64:=by rw[List.length_append,hl,List.length_replicate];omega
  rw[oT,Kb7 d i (by omega),J8f,oN,Int.toNat_natCast,Jzy _ (Jji _ lo i),J8f,oN]
  have e1:w64 (w64 (2*(i:Int))+((Jll d i:Nat):Int))=((2*i+Jll d i:Nat):Int):=by rw[oX (2*(i:Int)),oW];omega
  have e2:w64 (w64 (w64 (2*(i:Int))+1) - ((Jll d i:Nat):Int))=((2*i+1 - Jll d i:Nat):Int):=by rw[oX (2*(i:Int)),oX (2*(i:Int)+1),oW];omega
  rw[e1,e2,hlen,oN,List.length_set,hlen,oN,Int.toNat_natCast,Int.toNat_natCast,oW,Jgx]
  have hr:List.replicate (64 - 2*i) zH=zH::zH::List.replicate (64 - 2*(i+1)) zH:=by
   rw[show 64 - 2*i=(64 - 2*(i+1))+1+1 from by omega,List.replicate_succ,List.replicate_succ]
  rw[hr]
  have hw:Jlg d x.1 x.2.1 i=if Jll d i=0 then[Jzx (x.1.getD i zH),x.2.1.getD i zH]else[x.2.1.getD i zH,Jzx (x.1.getD i zH)]:=rfl
  rw[hw]
  rcases(show Jll d i=0\/Jll d i=1 by omega)with h0|h0
  ·rw[h0,if_pos rfl,Kn _ _ 0 _ _ (by rw[hl]),Kn _ _ 1 _ _ (by rw[hl];rfl),List.append_assoc]
   rfl
  ·rw[h0,oJ,Kn _ _ 1 _ _ (by rw[hl]),Kn _ _ 0 _ _ (by rw[hl];omega),List.append_assoc]
   rfl
 ·show J4w_1_step 32 x z d _=_
  unfold J4w_1_step
  rw[oF]
  simp[Jed]
theorem who_eq(m:List UInt8)(hm:m.length<=100000)(x:One)(lo:Len32 x.1)(ls:Len32 x.2.1):J4w m x=some (Jvy m x):=by
 unfold J4w Jvy
 by_cases ho:x.1.length=32
 ·rw[Jcq (by omega)]
  by_cases hs:x.2.1.length=32
  ·rw[Jcq (by omega),Kbc m hm,J8f,if_pos ⟨ho,hs⟩]
   have w:=who_1 (Jjd m) zH x ho hs lo
   rw[show Int.toNat (64:Int)=64 from rfl,w,J8f]
   have hk:J4g (Jed (Jjd m) x.1 x.2.1)=some (Kbk (Jed (Jjd m) x.1 x.2.1)):=Kbl _ (by unfold Jed;rw[Jfi];omega) (Jqz _ _ _ ls 32)
   rw[hk]
   rfl
  ·rw[Jd9 (by omega),if_neg (λh=>hs h.2)]
 ·rw[Jd9 (by omega),if_neg (λh=>ho h.1)]
theorem Kq seed m:(Jpm seed m).1.length=32/\(Jpm seed m).2.1.length=32/\Len32 (Jpm seed m).1/\Len32 (Jpm seed m).2.1:=by
 refine⟨by simp[Jpm,Jgl],by simp[Jpm,Jgm],λx hx=> ?_,λx hx=> ?_⟩
 ·obtain⟨i,_,rfl⟩:=List.mem_map.1 hx;exact Jg7 _ _ _
 ·obtain⟨i,_,rfl⟩:=List.mem_map.1 hx;exact Jsf _
def Juv(seed d e:List UInt8)(i:Nat):List (List UInt8):=if Jll d i=Jll e i then K1f seed i else[Jzx (Kae seed i 1),Jzx (Kae seed i 0)]
theorem Jy5 seed d e:Jed e (Jgl seed d 32) (Jgm seed d 32)=(List.range 32).flatMap (Juv seed d e):=by
 unfold Jed
 have:∀i∈List.range 32,Jlg e (Jgl seed d 32) (Jgm seed d 32) i=Juv seed d e i:=by
  intro i hi
  unfold Jlg Juv Jgl Jgm K1f
  have h1:=Jkp d i
  have h2:=Jkp e i
  grind
 rw[Jnf this]
theorem Kaw seed m:Jvy m (Jpm seed m)=(K7a seed,true):=by
 obtain⟨h1,h2,_,_⟩:=Kq seed m
 show(Kbk (Jed (Jjd m) (Jgl seed (Jjd m) 32) (Jgm seed (Jjd m) 32)),true)=_
 rw[Jy5]
 have:∀i∈List.range 32,Juv seed (Jjd m) (Jjd m) i=K1f seed i:=λi _=>if_pos rfl
 rw[Jnf this]
 rfl
def Joz(seed:List UInt8)(h:Nat):List UInt8:=sha (114::(seed++[UInt8.ofNat h]))
def Js4(seed:List UInt8)(n:Nat):List (List UInt8):=(List.range n).map λi=>K7a (Joz seed (i+1))
def Jc0(seed:List UInt8):List (List UInt8):=Js4 seed 16
noncomputable def Jq7(seed:List UInt8):List UInt8:=Jc1 (Jc0 seed)
abbrev Sig:=Int×One×List (List UInt8)×Unit
noncomputable def byS(keys:List (List UInt8))(seed:List UInt8)(h:Int)(m:List UInt8):Sig:=(h,Jpm (Joz seed h.toNat) m,Jdm keys (h - 1),())
def noSig:Sig:=(0,([],[],()),[],())
def isH(h:Int):Bool:=decide (1<=h)&&decide (h<=16)
def Kcf(id:List UInt8)(j:Int)(m:List UInt8)(s:Sig):Bool:=
 isH j&&(decide (s.1=j)&&((Jvy m s.2.1).2&&((upS (Jvy m s.2.1).1 (j - 1) 16 s.2.2.1).2&&Ty.beq (.arr 32 (.int .u8)) (upS (Jvy m s.2.1).1 (j - 1) 16 s.2.2.1).1 id)))
theorem Jk6 seed (h:Nat):(Joz seed h).length=32:=Ja8 _
theorem K7i seed:(K7a seed).length=32:=Jzc _
theorem K2b(seed:List UInt8)(hs:seed.length=32)(h:Nat):J7f seed (h:Int)=some (Joz seed h):=by
 unfold J7f
 have hf:[seed,[UInt8.ofNat (Int.toNat ((h:Int)%256))]].flatten=seed++[UInt8.ofNat h]:=by
  rw[Jcg];simp
 rw[Jb5 _ _ (by rw[hf];simp;omega) (by simp),hf]
 rfl
theorem Jnr seed (n:Nat):(Js4 seed n).length=n:=by simp[Js4]
theorem K96 seed (n:Nat):Len32 (Js4 seed n):=by
 intro x hx
 obtain⟨i,_,rfl⟩:=List.mem_map.1 hx
 exact K7i _
theorem Jb9 seed:(Jc0 seed).length=16:=Jnr _ _
theorem Jfw seed:Small (Jc0 seed):=λx hx=>by rw[K96 seed 16 x hx];omega
theorem K97 seed (i:Nat) (h:i<16):(Jc0 seed).getD i []=K7a (Joz seed (i+1)):=by
 unfold Jc0 Js4
 grind
theorem Kco(seed:List UInt8)(hs:seed.length=32):J49 seed=some (Jc0 seed):=by
 have main:J49_1 1 seed []=some (Jc0 seed):=by
  have:=J8u (step:=λ(s:Int×List (List UInt8))=>J49_1_step s.1 seed s.2) (λi (_:Unit)=>(((i+1:Nat):Int),Js4 seed i)) (λ_ _=>()) (λ_=>Jc0 seed) 16 (λ_ _=>True) (λi w hi _=>⟨?_,trivial⟩) (λw _=> ?_) 16 0 () (by omega) trivial
  ·exact this
  ·unfold J49_1_step
   have hl:=Jnr seed i
   rw[oT,K2b seed hs,J8f,Key_eq _ (Jk6 _ _),J8f,J8i (by simp;omega),oW]
   unfold Js4
   rw[mapRange]
   rfl
  ·rfl
 unfold J49
 rw[main]
 rfl
theorem Kbh(h:Int):J7w h=some (isH h):=by
 unfold J7w isH
 by_cases c:1<=h
 ·rw[decide_eq_true c];rfl
 ·rw[decide_eq_false c];rfl
theorem Kdz(h1:1<=h)(h2:h<=16):isH h=true:=by unfold isH;rw[decide_eq_true h1,decide_eq_true h2];rfl
theorem K4c:isH h=true↔1<=h/\h<=16:=by unfold isH;rw[Bool.and_eq_true,decide_eq_true_eq,decide_eq_true_eq]
theorem isH_f(c:h<1\/16<h):isH h=false:=by
 rw[<-Bool.not_eq_true,K4c];omega
theorem By_eq(keys:List (List UInt8))(hk:keys.length<64)(hks:Small keys)(seed m:List UInt8)(hs:seed.length=32)(h:Int)(h1:1<=h)(h2:h<=16)(hm:m.length<=100000):J86 keys seed h m=some (byS keys seed h m):=by
 obtain⟨k,rfl⟩:=Int.eq_ofNat_of_zero_le (show 0<=h by omega)
 unfold J86 byS
 rw[Kbh,Kdz h1 h2,J8f,show(!true)=false from rfl,J8y,K2b seed hs,J8f,Kfm _ m (Jk6 _ _) hm,J8f,oW,K5c keys _ hk hks,J8f,Int.toNat_natCast]
noncomputable def sigS(seed:List UInt8)(h:Int)(m:List UInt8):Sig:=byS (Jc0 seed) seed h m
theorem K05 m x:(Jvy m x).1.length=32:=by
 unfold Jvy
 split
 ·exact Jzc _
 ·rfl
def Jr1(s:Sig):Prop:=Len32 s.2.1.1/\Len32 s.2.1.2.1/\Len32 s.2.2.1/\s.2.2.1.length<=100000
theorem Ver_eq id (j:Int) (m:List UInt8) (hm:m.length<=100000) s (hs:Jr1 s):J75 id j m s=some (Kcf id j m s):=by
 obtain⟨s1,s2,s3,s4⟩:=hs
 unfold J75 Kcf
 rw[Kbh,J8f]
 cases hj:isH j with
 |false=>rfl
 | true=>
  obtain⟨j1,j2⟩:=K4c.1 hj
  by_cases c:s.1=j
  ·rw[decide_eq_true c,who_eq m hm s.2.1 s1 s2,J8f]
   cases (Jvy m s.2.1).2 with
   |false=>rfl
   |true=>
    rw[oW,up_eq _ (by rw[K05];omega) _ _ (by omega) _ s3 s4,J8f]
    cases (upS (Jvy m s.2.1).1 (j - 1) 16 s.2.2.1).2<;>rfl
  ·rw[decide_eq_false c];rfl
theorem K6f:∀i,i<16->(J9u 16 i 16).length=4:=by decide
theorem Kbx seed (h:Int) (h1:1<=h) (h2:h<=16):Jdm (Jc0 seed) (h - 1)=Jbh 16 (Jc0 seed) (h - 1).toNat/\(Jdm (Jc0 seed) (h - 1)).length=4/\Len32 (Jdm (Jc0 seed) (h - 1)):=by
 have e:Jdm (Jc0 seed) (h - 1)=Jbh 16 (Jc0 seed) (h - 1).toNat:=by
  unfold Jdm
  rw[Jb9,oI]
 rw[e]
 refine⟨rfl, ?_,Jjw _ _ _⟩
 rw[Jdr _ _ _ (by rw[Jb9];omega),Jb9,K6f _ (by omega)]
theorem sig_ok seed (h:Int) (h1:1<=h) (h2:h<=16) m:Jr1 (sigS seed h m):=by
 obtain⟨_,_,a,b⟩:=Kq (Joz seed h.toNat) m
 obtain⟨_,p1,p2⟩:=Kbx seed h h1 h2
 exact⟨a,b,p2,by show(Jdm (Jc0 seed) (h - 1)).length<=100000;omega⟩
theorem K9j:Jr1 noSig:=⟨(λx hx=>nomatch hx),(λx hx=>nomatch hx),(λx hx=>nomatch hx),by show(0:Nat)<=100000;omega⟩
theorem Kg3 id seed (h:Int) (h1:1<=h) (h2:h<=16) m:Kcf id h m (sigS seed h m)=Ty.beq (.arr 32 (.int .u8)) (Jq7 seed) id:=by
 obtain⟨p0,p1,p2⟩:=Kbx seed h h1 h2
 have hw:Jvy m (sigS seed h m).2.1=(K7a (Joz seed h.toNat),true):=Kaw _ _
 have hk:K7a (Joz seed h.toNat)=(Jc0 seed).getD (h - 1).toNat []:=by
  rw[K97 seed _ (by omega),show(h - 1).toNat+1=h.toNat from by omega]
 have hup:upS (K7a (Joz seed h.toNat)) (h - 1) 16 (sigS seed h m).2.2.1=(Jq7 seed,true):=by
  show upS (K7a (Joz seed h.toNat)) (h - 1) 16 (Jdm (Jc0 seed) (h - 1))=_
  unfold upS
  have e16:(16:Int).toNat=16:=rfl
  rw[e16,if_pos ⟨(Jit _ _).2 (by omega),by rw[p1,K6f _ (by omega)]⟩,p0,hk]
  have:=Jsb 16 (Jc0 seed) (h - 1).toNat (by rw[Jb9];omega) (by rw[Jb9];omega) (by rw[Jb9];omega)
  rw[Jb9]at this
  rw[this]
  rfl
 unfold Kcf
 rw[hw,Kdz h1 h2]
 rw[hup,decide_eq_true (show(sigS seed h m).1=h from rfl)]
 rfl
theorem Jst(seed:List UInt8)(hs:seed.length=32)(i v:Nat)(hi:i<256)(hv:v<256):J2i seed (i:Int) (v:Int)=some (Kae seed i v):=by
 unfold J2i
 have hf:[seed,[UInt8.ofNat (Int.toNat ((i:Int)%256)),UInt8.ofNat (Int.toNat ((v:Int)%256))]].flatten=seed++[UInt8.ofNat i,UInt8.ofNat v]:=by
  rw[Jcg,Jcg];simp
 rw[Ja3 _ _ (by rw[hf];simp;omega) (by simp),hf]
 rfl
theorem Jss(s:List UInt8)(hs:s.length=32):J2h s=some (Jzx s):=by
 unfold J2h
 have hf:[s].flatten=s:=by simp
 rw[Ja3 _ _ (by rw[hf];omega) (by simp),hf]
 rfl
theorem Kev(m:List UInt8)(hm:m.length<=100000):Jb 109 [m]=some (Jjd m):=by
 have hf:[m].flatten=m:=by simp
 rw[Ja3 _ _ (by rw[hf];omega) (by simp),hf]
 rfl
theorem Ket d (i:Nat) (hi:i<256):need (0<=(w64 (Int.tdiv (i:Int) (8:Int)))/\(w64 (Int.tdiv (i:Int) (8:Int)))<(32:Int)) (need (0<=(((UInt64.ofNat (Int.toNat ((w64 ((7:Int) - (Int.tmod (i:Int) (8:Int))))%18446744073709551616))).toNat:Nat):Int))
  (some (Jpe ((UInt8.toNat (UInt8.ofNat (UInt8.toNat (List.getD d (Int.toNat (w64 (Int.tdiv (i:Int) (8:Int)))) (0:UInt8))>>>(Int.toNat (((UInt64.ofNat (Int.toNat ((w64 ((7:Int) - (Int.tmod (i:Int) (8:Int))))%18446744073709551616))).toNat:Nat):Int)))):Nat):Int) (1:Int))))=some ((Jll d i:Nat):Int):=by
 have e1:Int.tdiv (i:Int) 8=((i / 8:Nat):Int):=by rw[Int.tdiv_eq_ediv_of_nonneg (by omega)];omega
 have e2:Int.tmod (i:Int) 8=((i%8:Nat):Int):=by rw[Int.tmod_eq_emod_of_nonneg (by omega)];omega
 have e3:(UInt64.ofNat (Int.toNat ((7 - ((i%8:Nat):Int))%18446744073709551616))).toNat=7 - i%8:=by
  rw[UInt64.toNat_ofNat'];omega
 rw[e1,e2,oW,oW,oN,e3,oN,Int.toNat_natCast,Int.toNat_natCast]
 generalize hx:d.getD (i / 8) 0=x
 have hlt:=x.toNat_lt
 have hs:x.toNat>>>(7 - i%8)<=x.toNat:=by rw[Nat.shiftRight_eq_div_pow];exact Nat.div_le_self _ _
 rw[UInt8.toNat_ofNat',Nat.mod_eq_of_lt (by omega)]
 have hb:=Jr4 (x.toNat>>>(7 - i%8)) 1 (by omega) (by omega)
 rw[show((1:Nat):Int)=1 from rfl]at hb
 rw[hb,show(1:Nat)=2^1 - 1 from rfl,Nat.and_two_pow_sub_one_eq_mod]
 unfold Jll
 rw[hx]
theorem K5n(m:List UInt8)(hm:m.length<=100000)(i:Nat)(hi:i<256):J5q m (i:Int)=some ((Jll (Jjd m) i:Nat):Int):=by
 unfold J5q
 rw[Kev m hm]
 exact Ket (Jjd m) i hi
theorem K5z(l:List (List UInt8))(hl:l.length<=1000)(h:∀x∈l,x.length=32):J0q l=some (Kbk l):=by
 have hlen:∀i,((l.take i).flatten).length<=32*l.length:=λi=>by
  rw[Jz5 _ λx hx=>h x (List.mem_of_mem_take hx),List.length_take];omega
 have main:∀z,J0q_1 l (l.length:Int) 0 z []=some (z,l.flatten):=by
  intro z
  have:=J8u (step:=λ(s:Int×List UInt8)=>J0q_1_step l (l.length:Int) s.1 z s.2) (λi (_:Unit)=>((i:Int),(l.take i).flatten)) (λ_ _=>()) (λ_=>(z,l.flatten)) l.length (λ_ _=>True) (λi w hi _=>⟨?_,trivial⟩) (λw _=> ?_) l.length 0 () (by omega) trivial
  ·exact this
  ·show J0q_1_step l (l.length:Int) (i:Int) z (l.take i).flatten=_
   unfold J0q_1_step
   have b:=hlen i
   have hm:(l.getD i (List.replicate 32 0)).length=32:=Jji l h i
   rw[oT,oN,Int.toNat_natCast,oN,oW,Ju7 l hi]
   rfl
  ·unfold J0q_1_step
   rw[oF,List.take_of_length_le (Nat.le_refl _)]
 unfold J0q
 have hf:[l.flatten].flatten=l.flatten:=by simp
 have:=Jz5 l h
 rw[main,J8f]
 simp only
 rw[Ja3 _ _ (by rw[hf];omega) (by simp),hf]
 rfl
theorem Kep(seed:List UInt8)(hs:seed.length=32):J19 seed=some (K7a seed):=by
 have main:∀z,J19_1 0 seed z []=some (z,Jdb seed 32):=by
  intro z
  have:=J8u (step:=λ(s:Int×List (List UInt8))=>J19_1_step s.1 seed z s.2) (λi (_:Unit)=>((i:Int),Jdb seed i)) (λ_ _=>()) (λ_=>(z,Jdb seed 32)) 32 (λ_ _=>True) (λi w hi _=>⟨?_,trivial⟩) (λw _=> ?_) 32 0 () (by omega) trivial
  ·exact this
  ·unfold J19_1_step
   have hl:=(Jjv seed i).2
   have s0:=Jst seed hs i 0 (by omega) (by omega)
   have s1:=Jst seed hs i 1 (by omega) (by omega)
   rw[show((0:Nat):Int)=0 from rfl]at s0
   rw[show((1:Nat):Int)=1 from rfl]at s1
   rw[oT,s0,J8f,Jss _ (Jg7 _ _ _),J8f,s1,J8f,Jss _ (Jg7 _ _ _),J8f,J8i (by simp;omega),oW]
   unfold Jdb
   rw[Jgx]
   rfl
  ·unfold J19_1_step
   rw[oF]
 unfold J19
 obtain⟨h1,h2⟩:=Jjv seed 32
 rw[main,J8f]
 simp only
 rw[K5z _ (by omega) h1]
 rfl
theorem Kab(seed m:List UInt8)(hs:seed.length=32)(hm:m.length<=100000):J10 seed m=some (Jpm seed m):=by
 have main:J10_1 m 0 seed () () [] []=some ((),(),Jgl seed (Jjd m) 32,Jgm seed (Jjd m) 32):=by
  generalize hd:Jjd m=d
  have:=J8u (step:=λ(s:Int×List (List UInt8)×List (List UInt8))=>J10_1_step m s.1 seed () () s.2.1 s.2.2) (λi (_:Unit)=>((i:Int),Jgl seed d i,Jgm seed d i)) (λ_ _=>()) (λ_=>((),(),Jgl seed d 32,Jgm seed d 32)) 32 (λ_ _=>True) (λi w hi _=>⟨?_,trivial⟩) (λw _=> ?_) 32 0 () (by omega) trivial
  ·exact this
  ·unfold J10_1_step
   have hb:=Jkp d i
   have lo:(Jgl seed d i).length=i:=by simp[Jgl]
   have ls:(Jgm seed d i).length=i:=by simp[Jgm]
   rw[oT,K5n m hm i (by omega),J8f,hd,Jst seed hs i _ (by omega) (by omega),J8f,J8i (by simp;omega),oW,show(1:Int) - ((Jll d i:Nat):Int)=((1 - Jll d i:Nat):Int)from by omega,
    Jst seed hs i _ (by omega) (by omega),J8f,Jss _ (Jg7 _ _ _),J8f,J8i (by simp;omega),oW]
   unfold Jgl Jgm
   rw[mapRange,mapRange]
   rfl
  ·unfold J10_1_step
   rw[oF]
 unfold J10
 rw[main]
 rfl
theorem Kff(m:List UInt8)(hm:m.length<=100000)(x:One)(lo:Len32 x.1)(ls:Len32 x.2.1):J1a m x=some (Jvy m x):=by
 unfold J1a Jvy
 by_cases ho:x.1.length=32
 ·rw [Jcq (by omega)]
  by_cases hs:x.2.1.length=32
  ·rw [Jcq (by omega),if_pos ⟨ho,hs⟩]
   have main:J1a_1 m 0 x zH []=some (zH,Jed (Jjd m) x.1 x.2.1):=by
    have:=J8u (step:=λ(s:Int×List (List UInt8))=>J1a_1_step m s.1 x zH s.2) (λi (_:Unit)=>((i:Int),(List.range i).flatMap (Jlg (Jjd m) x.1 x.2.1))) (λ_ _=>()) (λ_=>(zH,Jed (Jjd m) x.1 x.2.1)) 32 (λ_ _=>True) (λi w hi _=>⟨?_,trivial⟩) (λw _=> ?_) 32 0 () (by omega) trivial
    ·exact this
    ·unfold J1a_1_step
     have hb:=Jkp (Jjd m) i
     have hl:=Jfi (Jjd m) x.1 x.2.1 i
     have hg:=Jji _ lo i
     rw[oT,oN,Int.toNat_natCast,Jss _ hg,J8f,oN,K5n m hm i (by omega),J8f,oW,Jgx]
     have hw:Jlg (Jjd m) x.1 x.2.1 i=if Jll (Jjd m) i=0 then[Jzx (x.1.getD i zH),x.2.1.getD i zH]else[x.2.1.getD i zH,Jzx (x.1.getD i zH)]:=rfl
     rw[hw]
     rcases(show Jll (Jjd m) i=0\/Jll (Jjd m) i=1 by omega)with h0|h0
     ·rw[h0,if_pos rfl,oF,J8i (by rw[hl,List.length_cons,List.length_cons,List.length_nil];omega)]
      rfl
     ·rw[h0,oT,J8i (by rw[hl,List.length_cons,List.length_cons,List.length_nil];omega)]
      rfl
    ·unfold J1a_1_step
     rfl
   have hk:J0q (Jed (Jjd m) x.1 x.2.1)=some (Kbk (Jed (Jjd m) x.1 x.2.1)):=K5z _ (by unfold Jed;rw[Jfi];omega) (Jqz _ _ _ ls 32)
   have main':=main
   rw[main',J8f]
   simp only
   rw[hk]
   rfl
  ·rw[Jd9 (by omega),if_neg (λh=>hs h.2)]
 ·rw[Jd9 (by omega),if_neg (λh=>ho h.1)]
theorem K5(seed:List UInt8)(hs:seed.length=32)(h:Nat):J4r seed (h:Int)=some (Joz seed h):=by
 unfold J4r
 have hf:[seed,[UInt8.ofNat (Int.toNat ((h:Int)%256))]].flatten=seed++[UInt8.ofNat h]:=by
  rw[Jcg];simp
 rw[Ja3 _ _ (by rw[hf];simp;omega) (by simp),hf]
 rfl
theorem K9u(seed:List UInt8)(hs:seed.length=32):J0v seed=some (Jc0 seed):=by
 have main:J0v_1 1 seed []=some (Jc0 seed):=by
  have:=J8u (step:=λ(s:Int×List (List UInt8))=>J0v_1_step s.1 seed s.2) (λi (_:Unit)=>(((i+1:Nat):Int),Js4 seed i)) (λ_ _=>()) (λ_=>Jc0 seed) 16 (λ_ _=>True) (λi w hi _=>⟨?_,trivial⟩) (λw _=> ?_) 16 0 () (by omega) trivial
  ·exact this
  ·unfold J0v_1_step
   have hl:=Jnr seed i
   rw[oT,K5 seed hs,J8f,Kep _ (Jk6 _ _),J8f,J8i (by simp;omega),oW]
   unfold Js4
   rw[mapRange]
   rfl
  ·unfold J0v_1_step
   rfl
 unfold J0v
 rw[main]
 rfl
theorem Kc2(keys:List (List UInt8))(hk:keys.length<64)(hks:Small keys)(seed m:List UInt8)(hs:seed.length=32)(h:Int)(h1:1<=h)(h2:h<=16)(hm:m.length<=100000):J61 keys seed h m=some (byS keys seed h m):=by
 obtain⟨k,rfl⟩:=Int.eq_ofNat_of_zero_le (show 0<=h by omega)
 unfold J61 byS
 rw[K5 seed hs,J8f,Kab _ m (Jk6 _ _) hm,J8f,oW,Kg keys _ hk hks,J8f,Int.toNat_natCast]
theorem Ker id (j:Int) (m:List UInt8) (hm:m.length<=100000) s (hs:Jr1 s):J62 id j m s=some (Kcf id j m s):=by
 obtain⟨s1,s2,s3,s4⟩:=hs
 unfold J62 Kcf
 rw[Kff m hm s.2.1 s1 s2,J8f]
 cases hw:(Jvy m s.2.1).2 with
 |false=>rw[Bool.false_and,Bool.and_false,Bool.and_false];rfl
 | true=>
  rw[show(!true)=false from rfl,J8y]
  by_cases c:s.1=j
  ·rw[Jcq c,decide_eq_true c]
   by_cases c1:j<1
   ·rw[J8w c1,isH_f (.inl c1),Bool.false_and]
   ·by_cases c2:16<j
    ·rw[J90 c1,J8w c2,isH_f (.inr c2),Bool.false_and]
    ·obtain⟨x,x1,x2,_⟩:=Kc5 (Jvy m s.2.1).1 (by rw[K05];omega) (j - 1) 16 (by omega) s.2.2.1 s3 s4
     rw[J90 c1,J90 c2,Kdz (by omega) (by omega),oW,x1]
     cases hu:(upS (Jvy m s.2.1).1 (j - 1) 16 s.2.2.1).2 with
     |false=>rfl
     |true=>rw[x2 hu];rfl
  ·rw[Jd9 c,decide_eq_false c,Bool.false_and,Bool.and_false]
abbrev J9q:=List UInt8×Sig×Unit
def zSg:J9q:=(([]:List UInt8),((0:Int),(([]:List (List UInt8)),([]:List (List UInt8)),()),([]:List (List UInt8)),()),())
def K7e(s:List J9q):List (List UInt8):=s.map (·.1)
theorem Jzk(s:List J9q)(i:Nat):(s.getD i zSg).1=(K7e s).getD i []:=by
 unfold K7e
 rw[List.getD_eq_getElem?_getD,List.getD_eq_getElem?_getD,List.getElem?_map]
 cases s[i]?<;>rfl
def incS(s:List J9q):Bool:=incN (K7e s)
def Jl6(s:List J9q):Bool:=incS s&&decide (s.length<=5)
theorem Jiy(s:List J9q)(i:Int):J3m_1_step s i=(J8g (decide (i<(s.length:Int))) (need (0<=(w64 (i - 1))/\(w64 (i - 1))<(s.length:Int)) (need (0<=i/\i<(s.length:Int)) (J8g (!J97 (s.getD (Int.toNat (w64 (i - 1))) zSg).1 (s.getD (Int.toNat i) zSg).1) (some (.inr (.inl false))) (some (.inl (w64 (i+1))))))) (some (.inr (.inr s))):Option (Int⊕(Bool⊕List J9q))):=rfl
theorem Ki(s:List J9q)(r r0:ρ):∀(k i:Nat),i+k=s.length - 1->(∀j,j<i->J97 (s.getD j zSg).1 (s.getD (j+1) zSg).1=true)->
  scan (λi=>if J97 (s.getD i zSg).1 (s.getD (i+1) zSg).1=true then none else some r) r0 i k=if incS s=true then r0 else r
 | 0,i,h,hj=>by
  have:incS s=true:=List.all_eq_true.2 λj hj'=>by
   have hj':j<(K7e s).length - 1:=by simpa using hj'
   have hl:(K7e s).length=s.length:=by simp[K7e]
   rw[<-Jzk,<-Jzk]
   exact hj j (by omega)
  rw[if_pos this];rfl
 | k+1,i,h,hj=>by
  rw[scan]
  by_cases e:J97 (s.getD i zSg).1 (s.getD (i+1) zSg).1=true
  ·rw[if_pos e]
   exact Ki s r r0 k (i+1) (by omega) λj hj'=>by
    grind
  ·rw[if_neg e]
   have hl:(K7e s).length=s.length:=by simp[K7e]
   have:¬incS s=true:=λhall=>e (by
    have:=List.all_eq_true.1 hall i (by simp;omega)
    rwa[<-Jzk,<-Jzk]at this)
   rw[if_neg this]
theorem Jve(s:List J9q)(hs:s.length<=1073741824):J3m s=some (Jl6 s):=by
 have h:J3m_1 s 1=some (scan (λi=>if J97 (s.getD i zSg).1 (s.getD (i+1) zSg).1=true then none else some (.inl false)) (.inr s) 0 (s.length - 1)):=by
  refine Jca (step:=λ(x:Int)=>J3m_1_step s x) (λi=>((i+1:Nat):Int)) _ _ (s.length - 1) (λi hi h=> ?_) (λi r hi h=> ?_) ?_ (s.length - 1) 0 (by omega)
  ·rw[Jiy,oT,oW,oN,oN,show Int.toNat (((i+1:Nat):Int) - 1)=i from by omega,Int.toNat_natCast]
   by_cases e:J97 (s.getD i zSg).1 (s.getD (i+1) zSg).1=true
   ·rw[e,oW];rfl
   ·rw[if_neg e]at h;cases h
  ·rw[Jiy,oT,oW,oN,oN,show Int.toNat (((i+1:Nat):Int) - 1)=i from by omega,Int.toNat_natCast]
   by_cases e:J97 (s.getD i zSg).1 (s.getD (i+1) zSg).1=true
   ·rw[if_pos e]at h;cases h
   ·rw[if_neg e]at h;injection h with h;subst h
    rw[Bool.not_eq_true]at e
    rw[e];rfl
  ·rw[Jiy,oF]
 unfold J3m Jl6
 rw[h,J8f,Ki s _ _ (s.length - 1) 0 (by omega) (λj hj=>by omega)]
 cases incS s with
 |true=>
  show some (decide ((s.length:Int)<=5))=some (true&&decide (s.length<=5))
  rw[Bool.true_and]
  congr 1
  grind
 |false=>rfl
def Jp3(h:Hdr):List UInt8:=sha (72::Jf1 h)
theorem Jke h:(Jp3 h).length=32:=Ja8 _
theorem K6w h (hh:Jb3 h):J7h h=some (Jp3 h):=by
 unfold J7h
 rw[Jis h hh]
 rfl
noncomputable def sgS(h:Hdr)(n seed:List UInt8):J9q:=(n,sigS seed h.1 (Jp3 h),())
def Kcq(s:List J9q):Prop:=∀x∈s,Jr1 x.2.1
theorem sg_at(h:Kcq s)(i:Nat):Jr1 (s.getD i zSg).2.1:=by
 rw[List.getD_eq_getElem?_getD]
 cases e:s[i]? with
 |none=>exact K9j
 |some x=>exact h x (List.mem_of_getElem? e)
def K45(set:List Val)(h:Int)(d:List UInt8)(x:J9q):Bool:=(Ju5 set x.1).2&&Kcf (Ju5 set x.1).1.2.2.1 h d x.2.1
def Jif(set:List Val)(h:Int)(d:List UInt8)(s:List J9q):List (List UInt8):=(s.filter (K45 set h d)).map (·.1)
def Jls(set:List Val)(h:Hdr)(s:List J9q):List (List UInt8):=if Jl6 s then Jif set h.1 (Jp3 h) s else[]
theorem Jqe set (h:Int) d (s:List J9q):(Jif set h d s).length<=s.length:=by
 unfold Jif
 grind
theorem Jxb set (h:Int) d (s:List J9q) (hi:i<s.length):Jif set h d (s.take (i+1))=Jif set h d (s.take i)++(if K45 set h d (s.getD i zSg)then[(s.getD i zSg).1]else[]):=by
 unfold Jif
 rw[List.take_add_one]
 grind
theorem Jo7 set (s:List J9q) n i (h:Hdr) (o:List (List UInt8)) d:J3l_1_step set s n i h o d=(J8g (decide (i<n)) (need (0<=i/\i<(s.length:Int)) (J8e (J3o set (s.getD (Int.toNat i) zSg).1) (λu9=>J8g u9.2 (J8e (J75 u9.1.2.2.1 h.1 d (s.getD (Int.toNat i) zSg).2.1) (λu12=>J8g u12 (need (o.length+([(s.getD (Int.toNat i) zSg).1]:List (List UInt8)).length<=2147483648) (some (.inl ((w64 (i+1)),o++([(s.getD (Int.toNat i) zSg).1]:List (List UInt8)))))) (some (.inl ((w64 (i+1)),o))))) (some (.inl ((w64 (i+1)),o)))))) (some (.inr o)):Option ((Int×List (List UInt8))⊕(List (List UInt8)))):=rfl
theorem K9i(set:List Val)(hset:set.length<=1073741824) h (hh:Jb3 h) (s:List J9q) (hl:s.length<=1073741824) (hs:Kcq s):J3l set h s=some (Jls set h s):=by
 unfold J3l Jls
 rw[Jve s hl,J8f]
 cases hr:Jl6 s with
 |false=>rfl
 | true=>
  have main:∀d:List UInt8,d.length<=100000->J3l_1 set s (s.length:Int) 0 h [] d=some (Jif set h.1 d s):=by
   intro d hd
   have:=J8u (step:=λ(x:Int×List (List UInt8))=>J3l_1_step set s (s.length:Int) x.1 h x.2 d) (λi (_:Unit)=>((i:Int),Jif set h.1 d (s.take i))) (λ_ _=>()) (λ_=>Jif set h.1 d s) s.length (λ_ _=>True) (λi w hi _=>⟨?_,trivial⟩) (λw _=> ?_) s.length 0 () (by omega) trivial
   ·exact this
   ·have b:=Jqe set h.1 d (s.take i)
    rw[List.length_take]at b
    have t:=Jxb set h.1 d s hi
    rw[Jo7,oT,oN,Int.toNat_natCast,Kdo set hset,J8f,t,oW]
    unfold K45
    cases hf:(Ju5 set (s.getD i zSg).1).2 with
    |false=>rw[J8y,Bool.false_and,if_neg (by simp),List.append_nil];rfl
    |true=>
     rw[Jbz,Bool.true_and,Ver_eq _ _ d hd _ (sg_at hs i),J8f]
     cases hv:Kcf (Ju5 set (s.getD i zSg).1).1.2.2.1 h.1 d (s.getD i zSg).2.1 with
     |false=>rw[J8y,if_neg (by simp),List.append_nil];rfl
     |true=>rw[Jbz,J8i (by simp;omega),if_pos rfl];rfl
   ·rw[Jo7,oF,List.take_of_length_le (Nat.le_refl _)]
  rw[show(!true)=false from rfl,J8y,K6w h hh,J8f,main _ (by rw[Jke];omega),if_pos rfl]
  rfl
theorem K16 set h (s:List J9q):(Jls set h s).length<=s.length:=by
 unfold Jls
 split
 ·exact Jqe _ _ _ _
 ·simp
def Jm4(set:List Val)(h:Hdr)(s:List J9q):Int:=pow (λv=>(Jls set h s).contains v.1) set
def K23(set:List Val):Int:=pow (λ_=>true) set
theorem Kbv set (hset:Jgd set) h s:0<=Jm4 set h s/\Jm4 set h s<=4294967296:=by
 have:=Je3 (λv=>(Jls set h s).contains v.1) set hset.2
 have:=hset.1
 unfold Jm4
 omega
theorem all_b set (hset:Jgd set):0<=K23 set/\K23 set<=4294967296:=by
 have:=Je3 (λ_=>true) set hset.2
 have:=hset.1
 unfold K23
 omega
theorem Jly set (hset:Jgd set) h (hh:Jb3 h) (s:List J9q) (hl:s.length<=1000000) (hs:Kcq s):J71 set h s=some (Jm4 set h s,K23 set):=by
 have:=K16 set h s
 unfold J71
 rw[K9i set (by have:=hset.1;omega) h hh s (by omega) hs,J8f,Kaq set hset _ (by omega)]
 rfl
theorem K3n set (hset:Jgd set) h (hh:Jb3 h) (s:List J9q) (hl:s.length<=1000000) (hs:Kcq s):J6x set h s=some (decide (K23 set*2<Jm4 set h s*3)):=by
 unfold J6x
 rw[Jly set hset h hh s hl hs,J8f,K56 _ 2 3 (Kbv set hset h s) (all_b set hset) (by omega) (by omega)]
 rfl
theorem Kfn set (hset:Jgd set) h (hh:Jb3 h) (s:List J9q) (hl:s.length<=1000000) (hs:Kcq s):J7g set h s=some (decide (K23 set*1<Jm4 set h s*3)):=by
 unfold J7g
 rw[Jly set hset h hh s hl hs,J8f,K56 _ 1 3 (Kbv set hset h s) (all_b set hset) (by omega) (by omega)]
 rfl
def Jcn(i:Nat):List UInt8:=List.set (List.set (List.replicate 32 (0:UInt8)) 0 (77:UInt8)) 1 (UInt8.ofNat i)
theorem Jhf(i:Nat):(Jcn i).length=32:=by simp[Jcn]
theorem Jwy(i:Nat):J6i (i:Int)=some (Jcn i):=by
 unfold J6i
 rw[Jcg]
 rfl
noncomputable def Jjq(p:Nat->Int)(i:Nat):Val:=(nm i,p i,Jq7 (Jcn i),())
noncomputable def J8s(p:Nat->Int)(n:Nat):List Val:=(List.range n).map (Jjq p)
noncomputable def Jxq(ps:List Int):List Val:=J8s (pw ps) (Jpc ps)
noncomputable def Jx8(p:Nat->Int)(n i:Nat):List Val:=(List.range n).map λj=>if j<i then Jjq p j else Jx9 p j
theorem mid_step p n i (h:i<n):List.set (Jx8 p n i) i (((Jx8 p n i).getD i Jc8).1,((Jx8 p n i).getD i Jc8).2.1,Jq7 (Jcn i),())=Jx8 p n (i+1):=by
 have hg:(Jx8 p n i).getD i Jc8=Jx9 p i:=by
  unfold Jx8
  rw[List.getD_eq_getElem?_getD,List.getElem?_map,List.getElem?_range h]
  simp
 rw[hg]
 unfold Jx8
 apply List.ext_getElem
 ·simp
 ·intro j h1 h2
  rw[List.getElem_set]
  simp
  by_cases e:i=j
  ·subst e;rw[if_pos rfl,oI];rfl
  ·rw[if_neg e]
   by_cases c:j<i
   ·rw[if_pos c,oI]
   ·rw[if_neg c,oJ]
theorem Kk ps:1<=Jpc ps/\Jpc ps<=4:=by unfold Jpc;omega
theorem Kbr:∀i,i<4->∀j,j<4->nm i=nm j->i=j:=by decide
theorem Kbq:∀i,i<4->∀j,j<4->i<j->J97 (nm i) (nm j)=true:=by decide
theorem K1p p (n:Nat) (h:n<=4):Dist (J8s p n):=by
 unfold Dist J8s
 rw[List.map_map]
 rw[List.nodup_iff_pairwise_ne,List.pairwise_map]
 refine List.Pairwise.imp_of_mem (λ{a b} ha hb hab e=>hab (Kbr a (by have:=List.mem_range.1 ha;omega) b (by have:=List.mem_range.1 hb;omega) e)) (List.nodup_iff_pairwise_ne.1 List.nodup_range)
theorem Jxp p (n:Nat) (h:n<=4) (hp:∀i,0<=p i/\p i<=2097152):Jgd (J8s p n):=by
 refine⟨by simp[J8s];omega,λv hv=> ?_⟩
 obtain⟨i,_,rfl⟩:=List.mem_map.1 hv
 exact hp i
theorem K8w set (hd:Dist set) (h:Hdr) (h1:1<=h.1) (h2:h.1<=16) (v:Val) (hv:v∈set) seed (hk:v.2.2.1=Jq7 seed):K45 set h.1 (Jp3 h) (sgS h v.1 seed)=true:=by
 unfold K45 sgS
 rw[Kdp hd hv,hk,Kg3 _ _ _ h1 h2,Jj8]
 rfl
theorem K6d(h:Hdr)(h1:1<=h.1)(h2:h.1<=16) n seed:Jr1 (sgS h n seed).2.1:=sig_ok seed h.1 h1 h2 _
noncomputable def sgJ(h:Hdr)(js:List Nat):List J9q:=js.map λj=>sgS h (nm j) (Jcn j)
def pwJ(p:Nat->Int)(js:List Nat):Int:=(js.map p).sum
theorem pwJ_b p (hp:∀i,0<=p i/\p i<=2097152):∀js,0<=pwJ p js/\pwJ p js<=2097152*js.length
 |[]=>⟨Int.le_refl _,Int.le_refl _⟩
 |j::js=>by
  have:=pwJ_b p hp js
  have:=hp j
  unfold pwJ at*
  rw[List.map_cons,List.sum_cons,List.length_cons]
  omega
theorem K9t p js ks:pwJ p (js++ks)=pwJ p js+pwJ p ks:=by
 unfold pwJ;rw[List.map_append,List.sum_append]
theorem K4y h (js:List Nat):K7e (sgJ h js)=js.map nm:=by
 unfold K7e sgJ
 rw[List.map_map]
 rfl
theorem K4b{js:List Nat}(h1:js.Pairwise (· < ·))(h2:∀j∈js,j<4):incN (js.map nm)=true:=by
 refine Kdy _ ?_
 rw[List.pairwise_map]
 exact List.Pairwise.imp_of_mem (λ{a b} ha hb hab=>Kbq a (h2 a ha) b (h2 b hb) hab) h1
theorem sgJ_ok(h:Hdr)(h1:1<=h.1)(h2:h.1<=16) js:Kcq (sgJ h js):=by
 intro x hx
 obtain⟨j,_,rfl⟩:=List.mem_map.1 hx
 exact K6d h h1 h2 _ _
theorem K5w h {js:List Nat} (h1:js.Pairwise (· < ·)) (h2:∀j∈js,j<4) (h3:js.length<=4):Jl6 (sgJ h js)=true:=by
 unfold Jl6 incS
 rw[K4y,K4b h1 h2]
 simp[sgJ];omega
theorem K1g q a b:pow q (a++b)=pow q a+pow q b:=by
 unfold pow
 rw[List.filter_append,List.map_append,List.sum_append]
theorem Jse p q f:∀n,(∀i,i<n->q (Jjq p i)=f i)->pow q (J8s p n)=pwJ p ((List.range n).filter f)
 |0,_=>rfl
 |n+1,h=>by
  have e:J8s p (n+1)=J8s p n++[Jjq p n]:=by unfold J8s;rw[List.range_succ,List.map_append];rfl
  rw[e,K1g,Jse p q f n λi hi=>h i (by omega),List.range_succ,List.filter_append,K9t,K9p,Kek,h n (by omega)]
  by_cases c:f n
  ·rw[if_pos c,List.filter_cons_of_pos c];simp[pwJ,Jjq]
  ·rw[if_neg c,List.filter_cons_of_neg c];rfl
theorem Jw8{js:List Nat}{i:Nat}(h:∀j∈js,j<4)(hi:i<4):(js.map nm).contains (nm i)=js.contains i:=by
 rw[Bool.eq_iff_iff]
 simp only[List.contains_iff_mem]
 constructor
 ·intro hm
  obtain⟨j,hj,e⟩:=List.mem_map.1 hm
  rw[<-Kbr j (h j hj) i hi e]
  exact hj
 ·exact λhm=>List.mem_map_of_mem hm
theorem Jmm h (i:Nat):sgJ h (List.range (i+1))=sgJ h (List.range i)++[sgS h (nm i) (Jcn i)]:=by
 unfold sgJ;rw[List.range_succ,List.map_append];rfl
theorem Jhg h (js:List Nat):(sgJ h js).length=js.length:=by simp[sgJ]
abbrev Block:=Hdr×List J9q×List Val×List Val×Unit
def Jtc:Block:=(Jy6,([]:List J9q),([]:List Val),([]:List Val),())
def J8t(n:Nat):List (List UInt8):=(List.range n).map Jcn
def J8x(n:Nat):List (List (List UInt8)):=(List.range n).map λi=>Jc0 (Jcn i)
def Jab(n:Nat):List (List UInt8):=(List.range n).map nm
theorem Jaf f (z:α) {n i:Nat} (h:i<n):((List.range n).map f).getD i z=f i:=by
 grind
theorem Jme(f:Nat->α)(i:Nat):(List.range (i+1)).map f=(List.range i).map f++[f i]:=by
 rw[List.range_succ,List.map_append];rfl
theorem Jb7(f:Nat->α)(n:Nat):((List.range n).map f).length=n:=by simp
def K6c(p:Nat->Int)(n:Nat):List Val:=(List.range n).map (Jx9 p)
theorem setS_v ps:setS ps=K6c (pw ps) (Jpc ps):=rfl
theorem chain1(n:Nat)(hn:n<=4)(set:List Val):Jr_1 (n:Int) 0 set []=some (set,J8t n):=by
 have:=J8u (step:=λ(t:Int×List (List UInt8))=>Jr_1_step (n:Int) t.1 set t.2) (λi (_:Unit)=>((i:Int),J8t i)) (λ_ _=>()) (λ_=>(set,J8t n)) n (λ_ _=>True) (λi w hi _=>⟨?_,trivial⟩) (λw _=> ?_) n 0 () (by omega) trivial
 ·exact this
 ·unfold Jr_1_step
  have hl:(J8t i).length=i:=Jb7 _ _
  rw[oT,Jwy,J8f,J8i (by rw[hl];simp;omega),oW]
  unfold J8t
  rw[Jme]
  rfl
 ·unfold Jr_1_step
  rw[oF]
theorem K4v n i (set:List Val) seeds u r ns:J06_1_step n i set seeds u r ns=
  (J8g (decide (i<n)) (need (0<=i/\i<(List.length set:Int)) (need (List.length ns+List.length ([(set.getD (Int.toNat i) Jc8).1]:List (List UInt8))<=2147483648) (need (0<=i/\i<(List.length seeds:Int)) (J8e (J0v (List.getD seeds (Int.toNat i) (List.replicate 32 (0:UInt8)))) (λu6=>need (List.length r+List.length ([u6]:List (List (List UInt8)))<=2147483648) (some (.inl ((w64 (i+(1:Int))),(r++([u6]:List (List (List UInt8)))),(ns++([(set.getD (Int.toNat i) Jc8).1]:List (List UInt8))))))))))) (some (.inr (set,seeds,u,r,ns))):Option ((Int×List (List (List UInt8))×List (List UInt8))⊕((List Val)×List (List UInt8)×Unit×List (List (List UInt8))×List (List UInt8)))):=rfl
theorem Jxc(p:Nat->Int)(n:Nat)(hn:n<=4):J06 (K6c p n) (J8t n)=some (K6c p n,J8t n,(),J8x n,Jab n):=by
 have hl:(K6c p n).length=n:=Jb7 _ _
 have hs:(J8t n).length=n:=Jb7 _ _
 have main:J06_1 (n:Int) 0 (K6c p n) (J8t n) () [] []=some (K6c p n,J8t n,(),J8x n,Jab n):=by
  have:=J8u (step:=λ(t:Int×List (List (List UInt8))×List (List UInt8))=>J06_1_step (n:Int) t.1 (K6c p n) (J8t n) () t.2.1 t.2.2) (λi (_:Unit)=>((i:Int),J8x i,Jab i)) (λ_ _=>()) (λ_=>(K6c p n,J8t n,(),J8x n,Jab n)) n (λ_ _=>True) (λi w hi _=>⟨?_,trivial⟩) (λw _=> ?_) n 0 () (by omega) trivial
  ·exact this
  ·have h1:(J8x i).length=i:=Jb7 _ _
   have h2:(Jab i).length=i:=Jb7 _ _
   have g1:(K6c p n).getD i Jc8=Jx9 p i:=Jaf _ _ hi
   have g2:(J8t n).getD i (List.replicate 32 (0:UInt8))=Jcn i:=Jaf _ _ hi
   rw[K4v,oT,oN,Int.toNat_natCast,g1,g2,J8i (by rw[h2];simp;omega),oN,K9u _ (Jhf i),J8f,J8i (by rw[h1];simp;omega),oW]
   unfold J8x Jab
   rw[Jme,Jme]
   rfl
  ·rw[K4v,oF]
 unfold J06
 rw[hl,main]
 rfl
theorem Jyg n i (set:List Val) u seeds r ns:Jr_2_step n i set u seeds r ns=
  (J8g (decide (i<n)) (need (0<=i/\i<(List.length r:Int)) (J8e (J0l (List.getD r (Int.toNat i) ([]:List (List UInt8)))) (λu15=>need (0<=i/\i<(List.length set:Int)) (some (.inl ((w64 (i+(1:Int))),(List.set set (Int.toNat i) ((set.getD (Int.toNat i) Jc8).1,(set.getD (Int.toNat i) Jc8).2.1,u15,())))))))) (some (.inr (u,seeds,r,ns,set))):Option ((Int×List Val)⊕(Unit×List (List UInt8)×List (List (List UInt8))×List (List UInt8)×List Val))):=rfl
theorem chain2(p:Nat->Int)(n:Nat)(hn:n<=4):Jr_2 (n:Int) 0 (K6c p n) () (J8t n) (J8x n) (Jab n)=some ((),J8t n,J8x n,Jab n,J8s p n):=by
 have hr:(J8x n).length=n:=Jb7 _ _
 have:=J8u (step:=λ(t:Int×List Val)=>Jr_2_step (n:Int) t.1 t.2 () (J8t n) (J8x n) (Jab n)) (λi (_:Unit)=>((i:Int),Jx8 p n i)) (λ_ _=>()) (λ_=>((),J8t n,J8x n,Jab n,J8s p n)) n (λ_ _=>True) (λi w hi _=>⟨?_,trivial⟩) (λw _=> ?_) n 0 () (by omega) trivial
 ·assumption
 ·show Jr_2_step (n:Int) (i:Int) (Jx8 p n i) () (J8t n) (J8x n) (Jab n)=_
  have hm:(Jx8 p n i).length=n:=by simp[Jx8]
  have g1:(J8x n).getD i []=Jc0 (Jcn i):=Jaf _ _ hi
  rw[Jyg,oT,oN,Int.toNat_natCast,g1,Jk4 _ (by rw[Jb9];omega) (Jfw _),J8f,oN,oW]
  show some (Sum.inl (_,List.set (Jx8 p n i) i (((Jx8 p n i).getD i Jc8).1,((Jx8 p n i).getD i Jc8).2.1,Jq7 (Jcn i),())))=_
  rw[mid_step _ _ _ hi]
  rfl
 ·rw[Jyg,oF]
  unfold Jx8 J8s
  simp_all
theorem Jyi(ps:List Int)(hp:ps.length<=140737488351232):Jr ps=some ((),J8t (Jpc ps),J8x (Jpc ps),Jab (Jpc ps),Jxq ps):=by
 have hn:=Kk ps
 have hl:(K6c (pw ps) (Jpc ps)).length=Jpc ps:=Jb7 _ _
 unfold Jr
 rw[set_eq ps hp,J8f,setS_v,hl,chain1 _ hn.2,J8f]
 rw[Jxc _ _ hn.2,J8f]
 rw[hl,chain2 _ _ hn.2]
 rfl
noncomputable def K61:List UInt8:=sha (83::(Jev 0++Jc1 []))
theorem Jv9:K61.length=32:=Ja8 _
theorem Jt1:J2l []=some K61:=by
 have h1:J0f []=some []:=by
  unfold J0f J0f_1
  rw[J9d (r:=[]) rfl];rfl
 have h2:=Jk4 [] (by simp) (λx hx=>nomatch hx)
 have h3:[Jev 0,Jc1 []].flatten=Jev 0++Jc1 []:=by simp
 have h4:(Jc1 []).length<=1000000:=by rw[Jb4];omega
 have h5:=J9o 0
 unfold J2l
 rw[h1,J8f,h2,J8f]
 unfold J2f
 rw[show((([]:List (List UInt8×List UInt8×Unit)).length:Int))=0 from rfl,Jex,J8f,Ja3 _ _ (by rw[h3,List.length_append];omega) (by simp),h3]
 rfl
def lastB(B:List Block):Block:=B.getD (B.length - 1) Jtc
noncomputable def hdS(S:List Val)(B:List Block)(t:Int):Hdr:=
 if B.length=0 then(1,t,K61,setH S,setH S,List.replicate 32 0,())
 else((B.length:Int)+1,t,K61,setH (lastB B).2.2.2.1,setH S,sha (72::Jgr (lastB B).1),())
theorem Jq6 S B (t:Int):Jb3 (hdS S B t):=by
 unfold hdS
 split
 ·exact⟨Jv9,Jaq _,Jaq _,by simp⟩
 ·exact⟨Jv9,Jaq _,Jaq _,Ja8 _⟩
theorem Kdw S (B:List Block) (t:Int):(hdS S B t).1=(B.length:Int)+1:=by
 unfold hdS;split
 ·omega
 ·rfl
theorem hdS_t S B (t:Int):(hdS S B t).2.1=t:=by unfold hdS;split<;>rfl
def Kec(S:List Val)(B:List Block):List Val:=if B.length=0 then S else(lastB B).2.2.2.1
theorem K49(hb:B.length<16)(h1:0<=t)(h2:t<=1073741824):Jav (hdS S B t)=true:=by
 rw[Jba,Kdw,hdS_t];omega
noncomputable def blkS(n:Nat)(S:List Val)(B:List Block)(t:Int):Block:=(hdS S B t,sgJ (hdS S B t) (List.range n),Kec S B,S,())
theorem Jvp(hr:Jav h=true):Jp3 h=sha (72::Jgr h):=by
 unfold Jp3 Jf1;rw[if_pos hr]
theorem K11 B b:lastB (B++[b])=b:=by
 unfold lastB
 grind
theorem Jmi p (n:Nat) (h:n<=4):Jth (J8s p n):=by
 refine⟨by simp[J8s];omega,λv hv=> ?_⟩
 obtain⟨i,hi,rfl⟩:=List.mem_map.1 hv
 have hi:=List.mem_range.1 hi
 have:∀i,i<4->(nm i).length<=100000:=by decide
 exact⟨this i (by omega),Jb4 _⟩
def PrT(x:Pr):Prop:=x.1.length<=100/\x.2.1.length<=100
def Jfk(l:List Pr):Prop:=l.length<=30/\∀x∈l,PrT x
theorem Jjg(hl:l.length<=100000):Ok (J0g l k) (λr=>0<=r/\r<=l.length):=by
 simp only[J0g,wp]
 refine Jeg (λi:Int=>0<=i/\i<=l.length) (λi=>l.length - i) (by simp) λi h=> ?_
 simp only[J0g_1_step,wp]
 grind [J9t]
theorem K65(hl:l.length<=100000):Ok (J0e l p) (λr=>r.length<=l.length+1/\∀x∈r,x=p\/x∈l):=by
 simp only[J0e,wp]
 refine(Jjg hl).imp λi h=> ?_
 simp only[wp,Ja1,List.length_drop]
 grind [J9t]
theorem Keu(hl:l.length<=100000):Ok (J1n l k) (λr=>r.length<=l.length/\∀x∈r,x∈l):=by
 simp only[J1n,wp]
 refine Jeg (λs:Int×List Pr=>0<=s.1/\s.1<=l.length/\s.2.length<=s.1/\∀x∈s.2,x∈l) (λs=>l.length - s.1) (by simp) λi h=> ?_
 simp only[J1n_1_step,wp]
 grind [J9t]
theorem Jvk:Ok (J38 k) (λ_=>True):=by
 simp only[J38,wp];grind
theorem K5t:Ok (J09 a b) (λr=>r.length<=100):=by
 have h1:=J9o a;have h2:=J9o b
 simp only[J09,Jex,wp,List.length_append]
 omega
theorem Kfl(h0:0<=i)(h1:i<6){x:Nat}(hx:x<128):∃k:Nat,Jwx (x:Int) (Int.toNat (((UInt64.ofNat (Int.toNat ((w64 (7*i))%18446744073709551616))).toNat:Nat):Int))=(k:Int)/\k<2^42:=by
 have e:∃n:Nat,n<=35/\Int.toNat (((UInt64.ofNat (Int.toNat ((w64 (7*i))%18446744073709551616))).toNat:Nat):Int)=n:=by
  have:i=0\/i=1\/i=2\/i=3\/i=4\/i=5:=by omega
  rcases this with rfl|rfl|rfl|rfl|rfl|rfl
  ·exact⟨0,by omega,by decide⟩
  ·exact⟨7,by omega,by decide⟩
  ·exact⟨14,by omega,by decide⟩
  ·exact⟨21,by omega,by decide⟩
  ·exact⟨28,by omega,by decide⟩
  ·exact⟨35,by omega,by decide⟩
 obtain⟨n,hn,e⟩:=e
 have h2:2^n<=2^35:=Nat.pow_le_pow_right (by omega) hn
 have h3:x*2^n<2^42:=by have:=Nat.mul_le_mul (Nat.le_of_lt_succ hx) h2;omega
 refine⟨x*2^n, ?_,h3⟩
 rw[e]
 unfold Jwx
 rw[Nat.min_eq_left (by omega),show(x:Int)*2^n=((x*2^n:Nat):Int)by push_cast;rfl,oW]
theorem Jqg:Ok (J0n s) (λr=>0<=r.2/\r.2<=s.length/\0<=r.1):=by
 simp only[J0n,wp]
 refine(Jeg (Q:=λr:(Int×Int)⊕Unit=>match r with| .inl a=>0<=a.2/\a.2<=s.length/\0<=a.1| .inr _=>True) (λi:Int×Int=>0<=i.2/\i.2<=6/\∃k:Nat,i.1=k/\k<2^42) (λi=>6 - i.2) ⟨by simp,by simp,0,rfl,by omega⟩ λi h=> ?_).imp λr h=> ?_
 ·obtain⟨h1,h2,k,hk,hk2⟩:=h
  have e1:=oX (i.2+1)
  simp only[J0n_1_step,wp,e1,hk]
  by_cases c:i.2<6
  ·have hb:(UInt8.toNat ((s.getD i.2.toNat 0)&&& (127:UInt8)))<128:=by
    exact Nat.lt_of_le_of_lt Nat.and_le_right (by decide)
   obtain⟨j,hj,hj2⟩:=Kfl h1 c hb
   have ho:=Nat.or_lt_two_pow hk2 hj2
   have eb:=Jw2 k j (by omega)
   simp only[hj,eb]
   repeat' first|omega|trivial|exact⟨_,rfl,ho⟩|intro _|with_reducible apply And.intro
  ·repeat' first|omega|trivial|contradiction|intro _|with_reducible apply And.intro
 ·cases r with
  |inl a=>exact Jkk.2 h
  |inr a=>exact Jkk.2 (by simp)
theorem Jol(h:s.length<=1000):Ok (J3a s) (λr=>0<=r.1/\r.1<=1073741824/\0<=r.2.1/\r.2.1<=1073741824):=by
 simp only[J3a,wp]
 exact Jqg.imp λa ha=>⟨λ_=>by simp,λ_=>⟨by omega,Jqg.imp λb hb=>by repeat' first|omega|simp;done|intro _|with_reducible apply And.intro⟩⟩
theorem Jmx(hl:l.length<=1000)(h:∀x∈l,PrT x):Ok (Jj l) (λr=>r.2=true->0<=r.1/\r.1<=1073741824):=by
 simp only[Jj,wp]
 refine(Jeg (Q:=λr:(Int×Bool)⊕Int=>match r with| .inl a=>a.2=false| .inr a=>0<=a) (λi:Int×Int=>0<=i.2/\i.2<=l.length/\0<=i.1/\i.1<=2147483648*i.2) (λi=>l.length - i.2) (by simp) λi hi=> ?_).imp λr h=> ?_
 ·have e1:=oX (i.2+1)
  simp only[Jj_1_step,wp,e1]
  refine⟨λc=>⟨by omega,Jvk.imp λb _=> ?_⟩,by omega⟩
  have hg:(l.getD i.2.toNat (([]:List UInt8),([]:List UInt8),())).2.1.length<=1000:=by
   rw[List.getD_eq_getElem?_getD,List.getElem?_eq_getElem (by omega)];have:=(h _ (List.getElem_mem (l:=l) (n:=i.2.toNat) (by omega))).2;simp only[Option.getD_some];omega
  refine⟨by omega,λ_=>(Jol hg).imp λu hu=>⟨λ_=>by trivial,λ_=> ?_⟩⟩
  rw[oX (i.1+u.1),oW]
  omega
 ·cases r with
  |inl a=>exact Jkk.2 (by simp[h])
  |inr a=>simp only[wp];exact⟨λ_=>by simp,λc=>by simp only[not_false_eq_true]at*;omega⟩
theorem Kao(h:Jfk l)(k:Int)(n:List UInt8) a b (hn:n.length<=50):Ok (J2v l k n a b) (λr=>Jfk r.1):=by
 have hl:=h.1
 have set:∀{v:List UInt8},v.length<=100->Ok (J0e l ((([115,47]:List UInt8)++n),v,())) (λr=>r.length<=31/\∀x∈r,PrT x):=λhv=>(K65 (by omega)).imp λr hr=>⟨by omega,λx hx=>by
  rcases hr.2 x hx with rfl|hx
  ·exact⟨by simp;omega,hv⟩
  ·exact h.2 x hx⟩
 have fin:∀{x y:Int},Ok (J09 x y) (λv=>Ok (J0e l ((([115,47]:List UInt8)++n),v,())) λu=>(30<(u.length:Int)->Jfk l)/\(¬30<(u.length:Int)->Ok (Jj u) λw=>(w.2=false->Jfk l)/\(w.2=true->Jfk u))):=K5t.imp λv hv=>(set hv).imp λu hu=>⟨λ_=>h,λc=>(Jmx (by omega) hu.2).imp λw _=>⟨λ_=>h,λ_=>⟨by omega,hu.2⟩⟩⟩
 unfold J2v
 simp only[wp,List.length_cons,List.length_nil]
 have hg:∀(i:Int) (d:Pr),0<=i->i<l.length->(l.getD i.toNat d).2.1.length<=1000:=λi d c0 c=>by
  rw[List.getD_eq_getElem?_getD,List.getElem?_eq_getElem (by omega)];have:=(h.2 _ (List.getElem_mem (n:=i.toNat) (by omega))).2;simp;omega
 repeat' first|exact h|exact fin|omega|intro _|apply And.intro|refine(Jjg (by omega)).imp λi hi=> ?_|refine(Jol (hg _ _ hi.1 ‹_›)).imp λu _=> ?_
theorem Ke:Ok (J3w p) (λr=>r=true->p.1.length<=16/\p.2.1.length<=24):=by
 simp only[J3w,wp];grind
def ValT(v:Val):Prop:=v.1.length<=100/\v.2.2.1.length=32/\0<=v.2.1/\v.2.1<=1048576
def K22(l:List Val):Prop:=l.length<=10/\∀v∈l,ValT v
abbrev Chn:=List (List UInt8)×List (List (List UInt8))×List (List UInt8)×List Pr×List Val×List Block×List (List Pr)×Unit
def DoT(c d:Chn):Prop:=d.1=c.1/\d.2.1=c.2.1/\d.2.2.1=c.2.2.1/\Jfk d.2.2.2.1/\K22 d.2.2.2.2.1/\d.2.2.2.2.2=c.2.2.2.2.2
theorem Kd7(hr:Jfk c.2.2.2.1)(hs:K22 c.2.2.2.2.1)(t:Int×List UInt8×List UInt8×Int×Int×Unit)(ht:t.2.1.length<=50):Ok (J08 t c) (λr=>DoT c r.2):=by
 have h0:DoT c c:=⟨rfl,rfl,rfl,hr,hs,rfl⟩
 have hl:=hr.1
 have hx:=hs.1
 have lp:1<=t.2.2.2.1->t.2.2.2.1<=1048576->Ok (J08_1 c.2.2.2.2.1 (c.2.2.2.2.1.length:Int) 0 c t) (λr=>match r with| .inl a=>DoT c (a.2.1,a.2.2.1,a.2.2.2.1,a.2.2.2.2.1,a.2.2.2.2.2.2,a.2.2.2.2.2.1.1,a.2.2.2.2.2.1.2.1,())| .inr d=>DoT c d):=λt1 t2=>by
  refine Jeg (λi:Int=>0<=i/\i<=c.2.2.2.2.1.length) (λi=>c.2.2.2.2.1.length - i) (by simp) λi h=> ?_
  simp only[J08_1_step,wp,List.nil_append,List.length_nil]
  refine⟨λq=>⟨by omega,λe=>⟨by omega,by omega,rfl,rfl,rfl,hr,⟨by simpa using hx,λv hv=> ?_⟩,rfl⟩,by grind [J9t]⟩,λ_=>h0⟩
  have hg:c.2.2.2.2.1.getD i.toNat (([]:List UInt8),(0:Int),List.replicate 32 (0:UInt8),())∈c.2.2.2.2.1:=by
   rw[List.getD_eq_getElem?_getD,List.getElem?_eq_getElem (by omega)];exact List.getElem_mem ..
  rcases List.mem_or_eq_of_mem_set hv with hv|rfl
  ·exact hs.2 v hv
  ·have:=hs.2 _ hg;exact⟨this.1,this.2.1,by dsimp only;omega,by dsimp only;omega⟩
 simp only[J08,wp]
 have st:∀k,Ok (J2v c.2.2.2.1 k t.2.1 t.2.2.2.1 t.2.2.2.2.1) (λu=>DoT c (c.1,c.2.1,c.2.2.1,u.1,c.2.2.2.2.1,c.2.2.2.2.2.1,c.2.2.2.2.2.2.1,())):=λk=>(Kao hr _ _ _ _ ht).imp λu hu=>⟨rfl,rfl,rfl,hu,hs,rfl⟩
 have dl:Ok (J1n c.2.2.2.1 t.2.1) (λu=>DoT c (c.1,c.2.1,c.2.2.1,u,c.2.2.2.2.1,c.2.2.2.2.2.1,c.2.2.2.2.2.2.1,())):=(Keu (by omega)).imp λu hu=>⟨rfl,rfl,rfl,⟨by dsimp only;omega,λx hx=>hr.2 x (hu.2 x hx)⟩,hs,rfl⟩
 have set:t.2.1.length<=16/\t.2.2.1.length<=24->Ok (J0e c.2.2.2.1 (t.2.1,t.2.2.1,())) (λu=>(30<(u.length:Int)->DoT c c)/\(¬30<(u.length:Int)->DoT c (c.1,c.2.1,c.2.2.1,u,c.2.2.2.2.1,c.2.2.2.2.2.1,c.2.2.2.2.2.2.1,()))):=λq=>(K65 (by omega)).imp λu hu=>⟨λ_=>h0,λ_=>⟨rfl,rfl,rfl,⟨by dsimp only;omega,λx hx=>by
  rcases hu.2 x hx with rfl|hx
  ·exact⟨by dsimp only;omega,by dsimp only;omega⟩
  ·exact hr.2 x hx⟩,hs,rfl⟩⟩
 repeat' first|exact h0|exact st _|exact dl|omega|intro _|refine⟨λ_=> ?_,λ_=> ?_⟩|refine Ke.imp λb hb=> ?_|refine Jvk.imp λ_ _=> ?_|refine(lp (by omega) (by omega)).imp λr hq=> ?_
 ·rename_i e _ _ _;exact set (hb e)
 ·cases r<;>exact Jkk.2 hq
abbrev eqH(x y:List UInt8):Bool:=Ty.beq (.arr 32 (.int .u8)) x y
abbrev Cli:=List Hdr×List Val×Int×Bool×Unit
def Jvz(l:List Val):Prop:=∀v∈l,v.2.2.1.length=32
def K7f(b:Block):Prop:=Jb3 b.1/\Kcq b.2.1/\b.2.1.length<=1000000/\Jvz b.2.2.1/\Jvz b.2.2.2.1/\b.2.2.1.length<=1000000/\b.2.2.2.1.length<=1000000
theorem Joq(h:Jfd l=true):Jgd l/\l.length<=5/\1<=l.length/\∀v∈l,v.1.length<=16:=by
 unfold Jfd at h
 simp only[Bool.and_eq_true,decide_eq_true_eq]at h
 obtain⟨h1,h2,h3⟩:=h
 have key:∀v∈l,Ke7 v=true:=by
  intro v hv
  obtain⟨i,hi,rfl⟩:=List.getElem_of_mem hv
  have:=List.all_eq_true.1 h1 i (List.mem_range.2 hi)
  unfold K9l at this
  grind
 have key2:∀v∈l,v.1.length<=16/\1<=v.2.1/\v.2.1<=1048576:=by
  intro v hv
  have:=key v hv
  unfold Ke7 at this
  grind
 exact⟨⟨by omega,λv hv=>by have:=key2 v hv;omega⟩,h3,h2,λv hv=>(key2 v hv).1⟩
theorem Jsn(h:Jfd l=true)(hk:Jvz l):Jth l:=by
 obtain⟨_,h2,_,h4⟩:=Joq h
 exact⟨by omega,λv hv=>⟨by have:=h4 v hv;omega,hk v hv⟩⟩
def Jp7(b:Block):Bool:=Jav b.1&&(Jfd b.2.2.1&&(Jfd b.2.2.2.1&&(decide (b.2.1.length<=5)&&(eqH (setH b.2.2.1) b.1.2.2.2.1&&eqH (setH b.2.2.2.1) b.1.2.2.2.2.1))))
theorem Kax b (hb:K7f b):J7k b=some (Jp7 b):=by
 obtain⟨b1,b2,b3,b4,b5,b6,b7⟩:=hb
 unfold J7k Jp7
 rw[Jfc,J8f]
 cases c1:Jav b.1 with
 |false=>rfl
 | true=>
  rw[Jbz,right_eq _ (by omega),J8f]
  cases c2:Jfd b.2.2.1 with
  |false=>rfl
  | true=>
   rw[Jbz,right_eq _ (by omega),J8f]
   cases c3:Jfd b.2.2.2.1 with
   |false=>rfl
   | true=>
    by_cases c4:b.2.1.length<=5
    ·rw[oT,Jbc _ (Jsn c2 b4),J8f,decide_eq_true c4]
     cases c5:Ty.beq (.arr 32 (.int .u8)) (setH b.2.2.1) b.1.2.2.2.1 with
     |false=>rw[show eqH (setH b.2.2.1) b.1.2.2.2.1=false from c5];rfl
     |true=>rw[show eqH (setH b.2.2.1) b.1.2.2.2.1=true from c5,Jbz,Jbc _ (Jsn c3 b5)];rfl
    ·rw[oF,decide_eq_false c4];rfl
def lastH(c:Cli):Hdr:=c.1.getD (c.1.length - 1) Jy6
theorem Jx2(c:Cli):J2w c=need (0<=(w64 ((List.length c.1:Int) - (1:Int)))/\(w64 ((List.length c.1:Int) - (1:Int)))<(List.length c.1:Int)) (some (List.getD c.1 (Int.toNat (w64 ((List.length c.1:Int) - (1:Int)))) Jy6)):=rfl
theorem Juj(c:Cli)(h1:1<=c.1.length)(h2:c.1.length<=1000000):J2w c=some (lastH c):=by
 rw[Jx2,oW,oN]
 congr 2
 omega
def K7h(c:Cli):Prop:=1<=c.1.length/\c.1.length<=1000000/\Jgd c.2.1/\(0<=(lastH c).1/\(lastH c).1<=1099511627776)/\(0<=(lastH c).2.1/\(lastH c).2.1<=1099511627776)
theorem Jkv(now:Int)(c:Cli)(hc:K7h c)(hn: -1099511627776<=now/\now<=1099511627776):J13 now c=some (decide (c.2.2.1<now - (lastH c).2.1)):=by
 obtain⟨h1,h2,_,_,h5⟩:=hc
 unfold J13
 rw[Juj c h1 h2,J8f,oW]
theorem Jjc(l:List Val)(h:l.length<=2147483648):J3 l=some l:=by unfold J3;rw[J8i h]
theorem Jn0(l:List Hdr)(h:l.length<=2147483648):Jq l=some l:=by unfold Jq;rw[J8i h]
def enS(set:List Val)(h:Hdr)(s:List J9q):Bool:=decide (K23 set*2<Jm4 set h s*3)
def soS(set:List Val)(h:Hdr)(s:List J9q):Bool:=decide (K23 set*1<Jm4 set h s*3)
def K3b(l:List Hdr):List Hdr:=if 6<l.length then l.drop 1 else l
def updS(b:Block)(now:Int)(c:Cli):Int×Cli:=
 if c.2.2.2.1=true then(5,c)else if Jp7 b=false then(1,c)else if b.1.1<=(lastH c).1 then(8,c)else if b.1.2.1<=(lastH c).2.1 then(1,c)
 else if c.2.2.1<now - (lastH c).2.1 then(6,c)else if now<b.1.2.1 then(6,c)
 else if b.1.1=(lastH c).1+1/\eqH b.1.2.2.2.1 (lastH c).2.2.2.2.1=false then(9,c)else if enS b.2.2.1 b.1 b.2.1=false then(9,c)
 else if b.1.1≠(lastH c).1+1/\soS c.2.1 b.1 b.2.1=false then(9,c)
 else(0,(K3b (c.1++[b.1]),b.2.2.2.1,c.2.2.1,c.2.2.2.1,()))
theorem Kfr(b:Block)(c:Cli)(hc:c.1.length<=1000000)(hb:b.2.2.2.1.length<=1000000):(J8e (Jq c.1) (λu22=>need (List.length u22+List.length ([b.1]:List Hdr)<=2147483648) (J8g (decide ((6:Int)<(List.length (u22++([b.1]:List Hdr)):Int))) (need (0<=(1:Int)/\(1:Int)<=(List.length (u22++([b.1]:List Hdr)):Int)/\(List.length (u22++([b.1]:List Hdr)):Int)<=(List.length (u22++([b.1]:List Hdr)):Int)) (J8e (J3 b.2.2.2.1) (λu27=>some ((0:Int),((Ja1 (u22++([b.1]:List Hdr)) (1:Int) (List.length (u22++([b.1]:List Hdr)):Int)),u27,c.2.2.1,c.2.2.2.1,()))))) (J8e (J3 b.2.2.2.1) (λu29=>some ((0:Int),((u22++([b.1]:List Hdr)),u29,c.2.2.1,c.2.2.2.1,())))))):Option (Int×Cli))=
  some (0,(K3b (c.1++[b.1]),b.2.2.2.1,c.2.2.1,c.2.2.2.1,())):=by
 have h1:([b.1]:List Hdr).length=1:=rfl
 rw[Jn0 _ (by omega),J8f,oN]
 unfold K3b
 by_cases h:(6:Int)<((c.1++[b.1]).length:Int)
 ·rw[J8w h,oN,Jjc _ (by omega),oI,Jbt]
  rfl
 ·rw[J90 h,Jjc _ (by omega),J8f,oJ]
theorem Kcd b (now:Int) c (hb:K7f b) (hc:K7h c) (hn: -1099511627776<=now/\now<=1099511627776):J2x b now c=some (updS b now c):=by
 have hex:=Jkv now c hc hn
 obtain⟨c1,c2,c3,c4,c5⟩:=hc
 have hw:=Kax b hb
 obtain⟨b1,b2,b3,b4,b5,b6,b7⟩:=hb
 have wl:w64 ((lastH c).1+1)=(lastH c).1+1:=oW
 have htail:=Kfr b c (by omega) (by omega)
 unfold J2x updS
 rw[Juj c c1 c2,J8f]
 by_cases q1:c.2.2.2.1=true
 ·rw[q1,Jbz,if_pos rfl]
 rw[if_neg q1]
 have q1:c.2.2.2.1=false:=by simpa using q1
 rw[q1]at htail⊢
 rw[J8y,hw,J8f]
 cases q2:Jp7 b with
 |false=>rw[if_pos rfl];rfl
 | true=>
  rw[if_neg (by simp),Bool.not_true,J8y]
  have hset:Jgd b.2.2.1:=by
   unfold Jp7 at q2
   simp only[Bool.and_eq_true]at q2
   exact(Joq q2.2.1).1
  by_cases q3:b.1.1<=(lastH c).1
  ·rw[J8w q3,if_pos q3]
  rw[J90 q3,if_neg q3]
  by_cases q4:b.1.2.1<=(lastH c).2.1
  ·rw[J8w q4,if_pos q4]
  rw[J90 q4,if_neg q4,hex,J8f]
  by_cases q5:c.2.2.1<now - (lastH c).2.1
  ·rw[J8w q5,if_pos q5]
  rw[J90 q5,if_neg q5]
  by_cases q6:now<b.1.2.1
  ·rw[J8w q6,if_pos q6]
  rw[J90 q6,if_neg q6,wl]
  have en:=K3n b.2.2.1 hset b.1 b1 b.2.1 b3 b2
  have so:=Kfn c.2.1 c3 b.1 b1 b.2.1 b3 b2
  rw[show decide (K23 b.2.2.1*2<Jm4 b.2.2.1 b.1 b.2.1*3)=enS b.2.2.1 b.1 b.2.1 from rfl]at en
  rw[show decide (K23 c.2.1*1<Jm4 c.2.1 b.1 b.2.1*3)=soS c.2.1 b.1 b.2.1 from rfl]at so
  by_cases q7:b.1.1=(lastH c).1+1
  ·rw[J8w q7]
   cases q8:Ty.beq (.arr 32 (.int .u8)) b.1.2.2.2.1 (lastH c).2.2.2.2.1 with
   |false=>rw[if_pos ⟨q7,q8⟩];rfl
   | true=>
    rw[if_neg (by rw[show eqH b.1.2.2.2.1 (lastH c).2.2.2.2.1=true from q8];simp),Bool.not_true,J8y,en,J8f]
    cases q9:enS b.2.2.1 b.1 b.2.1 with
    |false=>rw[if_pos rfl];rfl
    |true=>
     rw[if_neg (by simp),Bool.not_true,J8y,Jcq q7,if_neg (λh=>h.1 q7)]
     exact htail
  ·rw[J90 q7,if_neg (λh=>q7 h.1),en,J8f]
   cases q9:enS b.2.2.1 b.1 b.2.1 with
   |false=>rw[if_pos rfl];rfl
   | true=>
    rw[if_neg (by simp),Bool.not_true,J8y,Jd9 q7,so,J8f]
    cases q10:soS c.2.1 b.1 b.2.1 with
    |false=>rw[if_pos ⟨q7,rfl⟩];rfl
    |true=>
     rw[if_neg (by simp),Bool.not_true,J8y]
     exact htail
def newS(h:Hdr)(next:List Val)(p:Int):Int⊕(Int×Cli):=
 if Jav h=true/\Jfd next=true/\eqH h.2.2.2.2.1 (setH next)=true/\(0<=p/\p<=1073741824)then .inr (0,([h],next,p,false,()))else .inl 1
theorem new_eq h (next:List Val) (p:Int) (hk:Jvz next) (hl:next.length<=1000000):J7e h next p=some (newS h next p):=by
 unfold J7e newS
 rw[Jfc,J8f]
 cases q1:Jav h with
 |false=>rw[if_neg (by simp)];rfl
 | true=>
  rw[Bool.not_true,J8y,right_eq _ (by omega),J8f]
  cases q2:Jfd next with
  |false=>rw[if_neg (by simp)];rfl
  | true=>
   rw[Bool.not_true,J8y,Jbc _ (Jsn q2 hk),J8f]
   cases q3:Ty.beq (.arr 32 (.int .u8)) h.2.2.2.2.1 (setH next)with
   |false=>rw[if_neg (by rw[show eqH h.2.2.2.2.1 (setH next)=false from q3];simp)];rfl
   | true=>
    unfold J7p
    by_cases q4:0<=p
    ·rw[J8w q4]
     by_cases q5:p<=1073741824
     ·rw[decide_eq_true q5,Bool.not_true,J8y,Jjc _ (by omega),if_pos ⟨rfl,rfl,q3,q4,q5⟩]
      rfl
     ·rw[decide_eq_false q5,oJ];rfl
    ·rw[J90 q4,oJ];rfl
theorem K17 p (hn:n<=4) (h:Hdr) (h1:1<=h.1) (h2:h.1<=16) (q1:js.Pairwise (· < ·)) (q2:∀j∈js,j<n) (q3:js.length<=4):Jls (J8s p n) h (sgJ h js)=js.map nm:=by
 unfold Jls Jif
 rw[if_pos (K5w h q1 (λj hj=>by have:=q2 j hj;omega) q3),List.filter_eq_self.2,<-K4y h js]
 ·rfl
 ·intro x hx
  obtain⟨j,hj,rfl⟩:=List.mem_map.1 hx
  exact K8w _ (K1p p n hn) h h1 h2 (Jjq p j) (List.mem_map_of_mem (List.mem_range.2 (q2 j hj))) (Jcn j) rfl
theorem K8t g (n:Nat):((List.range n).filter g).Pairwise (· < ·):=List.Pairwise.filter _ List.pairwise_lt_range
theorem K3z(h:j∈(List.range n).filter g):j<n:=List.mem_range.1 (List.mem_filter.1 h).1
theorem Jry g (n:Nat):((List.range n).filter g).length<=n:=by
 grind
theorem Juw p (hn:n<=4) (h:Hdr) (h1:1<=h.1) (h2:h.1<=16) g:Jm4 (J8s p n) h (sgJ h ((List.range n).filter g))=pwJ p ((List.range n).filter g):=by
 have hl:=Jry g n
 unfold Jm4
 rw[K17 p hn h h1 h2 (K8t g n) (λj hj=>K3z hj) (by omega)]
 refine Jse p _ g n λi hi=> ?_
 show(((List.range n).filter g).map nm).contains (nm i)=g i
 rw[Jw8 (λj hj=>by have:=K3z hj;omega) (by omega)]
 grind
theorem Jrx(n:Nat):(List.range n).filter (λ_=>true)=List.range n:=List.filter_eq_self.2 λ_ _=>rfl
theorem Jtl p (n:Nat):K23 (J8s p n)=pwJ p (List.range n):=by
 unfold K23
 rw[Jse p (λ_=>true) (λ_=>true) n (λ_ _=>rfl),Jrx]
def Jkn(p:Nat->Int):Prop:=∀i,1<=p i/\p i<=1000000
theorem Keo ps:Jkn (pw ps):=λi=>by have:=pw_b ps i;omega
theorem Jkn.s(h:Jkn p):∀i,0<=p i/\p i<=2097152:=λi=>by have:=h i;omega
theorem Ken(h:Jkn p):∀js:List Nat,js≠[]->1<=pwJ p js
 |[],e=>absurd rfl e
 |j::js,_=>by
  have:=h j
  have:=pwJ_b p h.s js
  unfold pwJ at*
  grind
theorem K9v(h:1<=n):List.range n≠[]:=λe=>by have:=congrArg List.length e;simp at this;omega
theorem Jg5(hp:Jkn p)(h1:1<=n)(hn:n<=4):Jfd (J8s p n)=true:=by
 have hl:(J8s p n).length=n:=by simp[J8s]
 have hg:∀i,i<n->(J8s p n).getD i Jc8=Jjq p i:=λi hi=>Jaf _ _ hi
 have h2:∀i,i<4->nm i≠[]/\(nm i).length<=16:=by decide
 unfold Jfd
 rw[hl]
 simp only[Bool.and_eq_true,decide_eq_true_eq]
 refine⟨List.all_eq_true.2 λi hi=> ?_,by omega,by omega⟩
 have hi:=List.mem_range.1 hi
 obtain⟨a,b⟩:=h2 i (by omega)
 have:=hp i
 unfold K9l Ke7
 rw[hg i hi]
 simp only[Bool.and_eq_true,Bool.or_eq_true,Bool.not_eq_true',decide_eq_true_eq,decide_eq_false_iff_not,beq_iff_eq]
 refine⟨⟨a, ?_,this.1, ?_⟩, ?_⟩
 ·show((nm i).length:Int)<=16;omega
 ·show p i<=1048576;omega
 ·by_cases c:i=0
  ·exact .inl c
  ·right
   rw[hg (i - 1) (by omega)]
   exact Kbq (i - 1) (by omega) i (by omega) (by omega)
theorem Jos p (n:Nat):Jvz (J8s p n):=by
 intro v hv
 obtain⟨i,hi,rfl⟩:=List.mem_map.1 hv
 exact Jb4 _
theorem Jv8(hp:Jkn p)(hn:n<=4):Jgd (J8s p n):=Jxp p n hn hp.s
noncomputable def blF(n:Nat)(S:List Val)(f:Nat->Int):Nat->List Block
 |0=>[]
 |k+1=>blF n S f k++[blkS n S (blF n S f k) (f k)]
noncomputable def hF(n:Nat)(S:List Val)(f:Nat->Int)(j:Nat):Hdr:=hdS S (blF n S f j) (f j)
def Rise(f:Nat->Int):Prop:=(∀i,i<16->0<=f i/\f i<=1000000000)/\∀i,i+1<16->f i<f (i+1)
theorem Rise.lt(h:Rise f):∀{j:Nat},i<j->j<16->f i<f j
 |j+1,hij,hj=>by
  have:=h.2 j hj
  rcases Nat.lt_or_ge i j with c|c
  ·have:=h.lt c (by omega);omega
  ·grind
def Knows(S:List Val)(P:Int)(h:Hdr)(c:Cli):Prop:=1<=c.1.length/\c.1.length<=1000/\lastH c=h/\c.2.1=S/\c.2.2.1=P/\c.2.2.2.1=false
theorem Jqa l h x:lastH (l++[h],x)=h:=by
 unfold lastH
 grind
theorem K4j(l:List Hdr) h x (hl:1<=l.length):lastH (K3b (l++[h]),x)=h:=by
 unfold K3b
 split
 ·rw[List.drop_append_of_le_length hl]
  exact Jqa _ _ _
 ·exact Jqa _ _ _
noncomputable def hdR(r:List UInt8)(S:List Val)(B:List Block)(t:Int):Hdr:=
 if B.length=0 then(1,t,r,setH S,setH S,List.replicate 32 0,())
 else((B.length:Int)+1,t,r,setH (lastB B).2.2.2.1,setH S,sha (72::Jgr (lastB B).1),())
theorem K0z(hr32:r.length=32) S B (t:Int):Jb3 (hdR r S B t):=by
 unfold hdR
 split
 ·exact⟨hr32,Jaq _,Jaq _,by simp⟩
 ·exact⟨hr32,Jaq _,Jaq _,Ja8 _⟩
theorem hdR_1 r S (B:List Block) (t:Int):(hdR r S B t).1=(B.length:Int)+1:=by
 unfold hdR;split
 ·omega
 ·rfl
theorem hdR_t r S B (t:Int):(hdR r S B t).2.1=t:=by unfold hdR;split<;>rfl
theorem K8y r S B (t:Int):(hdR r S B t).2.2.2.2.1=setH S:=by unfold hdR;split<;>rfl
theorem K8z r S B (t:Int):(hdR r S B t).2.2.2.1=setH (Kec S B):=by unfold hdR Kec;split<;>rfl
theorem K48(hb:B.length<16)(h1:0<=t)(h2:t<=1073741824):Jav (hdR r S B t)=true:=by
 rw[Jba,hdR_1,hdR_t];omega
noncomputable def blkR(n:Nat)(r:List UInt8)(S:List Val)(B:List Block)(t:Int):Block:=(hdR r S B t,sgJ (hdR r S B t) (List.range n),Kec S B,S,())
noncomputable def blG(n:Nat)(r:Nat->List UInt8)(S:Nat->List Val)(f:Nat->Int):Nat->List Block
 |0=>[]
 |k+1=>blG n r S f k++[blkR n (r k) (S k) (blG n r S f k) (f k)]
noncomputable def hG(n:Nat)(r:Nat->List UInt8)(S:Nat->List Val)(f:Nat->Int)(j:Nat):Hdr:=hdR (r j) (S j) (blG n r S f j) (f j)
def Jpk(S:Nat->List Val)(j:Nat):List Val:=if j=0 then S 0 else S (j - 1)
noncomputable def genB(n:Nat)(r:Nat->List UInt8)(S:Nat->List Val)(f:Nat->Int)(j:Nat):Block:=(hG n r S f j,sgJ (hG n r S f j) (List.range n),Jpk S j,S j,())
theorem Jfo(n:Nat) r S f:∀k,(blG n r S f k).length=k
 |0=>rfl
 |k+1=>by rw[blG,List.length_append,Jfo n r S f k];rfl
theorem nowG(n:Nat) r S f:∀k,Kec (S k) (blG n r S f k)=Jpk S k
 |0=>rfl
 |k+1=>by
  unfold Kec Jpk
  rw[Jfo,blG,K11]
  rfl
theorem K2u(n:Nat) r S f:∀{k j:Nat},j<k->(blG n r S f k).getD j Jtc=genB n r S f j
 | k+1,j,h=>by
  rw[blG]
  rcases Nat.lt_or_ge j k with c|c
  ·rw[List.getD_eq_getElem?_getD,List.getElem?_append_left (by rw[Jfo];exact c)]
   exact K2u n r S f c
  ·have:j=k:=by omega
   subst this
   rw[List.getD_eq_getElem?_getD,List.getElem?_append_right (by rw[Jfo];omega),Jfo]
   simp
   unfold blkR
   rw[nowG]
   rfl
theorem Jto(n:Nat):∀k,(∀j,j<k->r j=r' j/\S j=S' j/\f j=f' j)->blG n r S f k=blG n r' S' f' k
 |0,_=>rfl
 |k+1,h=>by
  obtain⟨a,b,c⟩:=h k (Nat.lt_succ_self k)
  rw[blG,blG,Jto n k (λj hj=>h j (by omega)),a,b,c]
theorem Kdt(n:Nat) r S f (j:Nat):(hG n r S f j).1=(j:Int)+1:=by unfold hG;rw[hdR_1,Jfo]
theorem hG_t(n:Nat) r S f (j:Nat):(hG n r S f j).2.1=f j:=hdR_t _ _ _ _
theorem Kdu(n:Nat) r S f (j:Nat):(hG n r S f j).2.2.1=r j:=by unfold hG hdR;split<;>rfl
theorem Jwu(n:Nat) r S f (j:Nat):(hG n r S f j).2.2.2.2.1=setH (S j):=K8y _ _ _ _
theorem K47(n:Nat) r S f (j:Nat):(hG n r S f j).2.2.2.1=setH (Jpk S j):=by unfold hG;rw[K8z,nowG]
theorem Jni(n:Nat) S f (hr:(r j).length=32):Jb3 (hG n r S f j):=K0z hr _ _ _
theorem Jmc(hj:j<16)(h1:0<=f j)(h2:f j<=1073741824):Jav (hG n r S f j)=true:=K48 (by rw[Jfo];exact hj) h1 h2
theorem K9a(n:Nat) r S f (k:Nat):lastB (blG n r S f (k+1))=genB n r S f k:=by
 unfold lastB
 rw[Jfo]
 exact K2u n r S f (by omega)
theorem preR(P:Nat->Nat->Int)(n j:Nat):Jpk (λk=>J8s (P k) n) j=J8s (if j=0 then P 0 else P (j - 1)) n:=by
 unfold Jpk;split<;>rfl
def Jms(m:Nat)(f:Nat->Int):Prop:=(∀i,i<m->0<=f i/\f i<=1000000000)/\∀i,i+1<m->f i<f (i+1)
theorem Jms.lt(h:Jms m f):∀{j:Nat},i<j->j<m->f i<f j
 |j+1,hij,hj=>by
  have:=h.2 j hj
  rcases Nat.lt_or_ge i j with c|c
  ·have:=h.lt c (by omega);omega
  ·grind
noncomputable def sgB(n:Nat)(r:Nat->List UInt8)(P:Nat->Nat->Int)(f:Nat->Int)(j:Nat)(g:Nat->Bool):Block:=(hG n r (λk=>J8s (P k) n) f j,sgJ (hG n r (λk=>J8s (P k) n) f j) ((List.range n).filter g),Jpk (λk=>J8s (P k) n) j,J8s (P j) n,())
def pB(P:Nat->Nat->Int)(j:Nat):Nat->Int:=if j=0 then P 0 else P (j - 1)
theorem pB_ok(hP:∀j,Jkn (P j))(j:Nat):Jkn (pB P j):=by
 unfold pB;split<;>exact hP _
theorem sgB_ok(hn:n<=4){r:Nat->List UInt8}(P:Nat->Nat->Int)(f:Nat->Int){j:Nat}(hj:j<16)(hr:(r j).length=32)(g:Nat->Bool):K7f (sgB n r P f j g):=by
 have hl:∀p,(J8s p n).length=n:=λp=>by simp[J8s]
 have h1:=Kdt n r (λk=>J8s (P k) n) f j
 refine⟨Jni n _ f hr,sgJ_ok _ (by omega) (by omega) _, ?_, ?_,Jos _ n, ?_, ?_⟩
 ·show(sgJ _ _).length<=1000000
  have:=Jry g n
  rw[Jhg];omega
 ·show Jvz (Jpk (λk=>J8s (P k) n) j)
  rw[preR];exact Jos _ n
 ·show(Jpk (λk=>J8s (P k) n) j).length<=1000000
  rw[preR,hl];omega
 ·show(J8s (P j) n).length<=1000000
  rw[hl];omega
theorem K74(h1:1<=n)(hn:n<=4){r:Nat->List UInt8}{P:Nat->Nat->Int}(hP:∀j,Jkn (P j)){f:Nat->Int}{j:Nat}(hj:j<16)(q1:0<=f j)(q2:f j<=1073741824)(g:Nat->Bool):Jp7 (sgB n r P f j g)=true:=by
 have hfl:=Jry g n
 unfold Jp7 sgB
 rw[Jmc hj q1 q2,preR,Jg5 (show Jkn (if j=0 then P 0 else P (j - 1))from pB_ok hP j) h1 hn,Jg5 (hP j) h1 hn,K47,preR,Jwu]
 rw[decide_eq_true (by rw[Jhg];omega),show ∀s,eqH (setH s) (setH s)=true from λs=>Jj8 _,show ∀s,eqH (setH s) (setH s)=true from λs=>Jj8 _]
 rfl
theorem Kg2(h1:1<=n)(hn:n<=4){P:Nat->Nat->Int}(hP:∀j,Jkn (P j)){m:Nat}(hm:m<=16){f:Nat->Int}(hf:Jms m f){i j:Nat}(hij:i<j)(hj:j<m){T:Int}{c:Cli}
  (hc:Knows (J8s (P i) n) T (hG n r (λk=>J8s (P k) n) f i) c) (now:Int) (g:Nat->Bool) (q2:¬T<now - f i) (q3:¬now<f j):
  updS (sgB n r P f j g) now c=if ¬pwJ (pB P j) (List.range n)*2<pwJ (pB P j) ((List.range n).filter g)*3 then(9,c)else if j≠i+1/\¬pwJ (P i) (List.range n)*1<pwJ (P i) ((List.range n).filter g)*3 then(9,c)else(0,(K3b (c.1++[hG n r (λk=>J8s (P k) n) f j]),J8s (P j) n,T,false,())):=by
 obtain⟨c1,c2,c3,c4,c5,c6⟩:=hc
 have fj:=hf.1 j hj
 have hlt:=hf.lt hij hj
 have e1:=Kdt n r (λk=>J8s (P k) n) f j
 have e2:=Kdt n r (λk=>J8s (P k) n) f i
 have ea:∀p,enS (J8s p n) (hG n r (λk=>J8s (P k) n) f j) (sgJ (hG n r (λk=>J8s (P k) n) f j) ((List.range n).filter g))=decide (pwJ p (List.range n)*2<pwJ p ((List.range n).filter g)*3):=λp=>by
  unfold enS
  rw[Juw p hn _ (by omega) (by omega),Jtl]
 have es:∀p,soS (J8s p n) (hG n r (λk=>J8s (P k) n) f j) (sgJ (hG n r (λk=>J8s (P k) n) f j) ((List.range n).filter g))=decide (pwJ p (List.range n)*1<pwJ p ((List.range n).filter g)*3):=λp=>by
  unfold soS
  rw[Juw p hn _ (by omega) (by omega),Jtl]
 unfold updS
 rw[if_neg (by rw[c6];simp),K74 h1 hn hP (by omega) fj.1 (by omega) g,if_neg (by simp),c3,e2,hG_t,Jwu]
 show(if(hG n r (λk=>J8s (P k) n) f j).1<=_ then _ else if(hG n r (λk=>J8s (P k) n) f j).2.1<=_ then _ else _)=_
 rw[e1,hG_t,oJ,oJ,c5,if_neg q2]
 show(if now<(hG n r (λk=>J8s (P k) n) f j).2.1 then _ else if(hG n r (λk=>J8s (P k) n) f j).1=_/\eqH (hG n r (λk=>J8s (P k) n) f j).2.2.2.1 _=false then _ else if enS (Jpk (λk=>J8s (P k) n) j) (hG n r (λk=>J8s (P k) n) f j) (sgJ (hG n r (λk=>J8s (P k) n) f j) ((List.range n).filter g))=false then _ else if(hG n r (λk=>J8s (P k) n) f j).1≠_/\soS c.2.1 (hG n r (λk=>J8s (P k) n) f j) (sgJ (hG n r (λk=>J8s (P k) n) f j) ((List.range n).filter g))=false then _ else(0,(K3b (c.1++[hG n r (λk=>J8s (P k) n) f j]),J8s (P j) n,T,c.2.2.2.1,())))=_
 rw[hG_t,if_neg q3,K47,e1,preR,ea,c4,es,c6]
 have hv:¬((j:Int)+1=(i:Int)+1+1/\eqH (setH (J8s (if j=0 then P 0 else P (j - 1)) n)) (setH (J8s (P i) n))=false):=by
  rintro⟨a,b⟩
  rw[oJ,show j - 1=i from by omega,show eqH (setH (J8s (P i) n)) (setH (J8s (P i) n))=true from Jj8 _]at b
  cases b
 rw[if_neg hv]
 show(if decide (pwJ (pB P j) (List.range n)*2<pwJ (pB P j) ((List.range n).filter g)*3)=false then _ else _)=_
 grind
theorem Kba(hn:n<=4){P:Nat->Nat->Int}(hP:∀j,Jkn (P j)){m:Nat}(hm:m<=16){f:Nat->Int}(hf:Jms m f){i:Nat}(hi:i<m){T:Int}{c:Cli}(hc:Knows (J8s (P i) n) T (hG n r (λk=>J8s (P k) n) f i) c):K7h c:=by
 obtain⟨c1,c2,c3,c4,_,_⟩:=hc
 have:=hf.1 i hi
 refine⟨c1,by omega,by rw[c4];exact Jv8 (hP i) hn, ?_, ?_⟩
 ·rw[c3,Kdt];omega
 ·rw[c3,hG_t];omega
theorem Kea(h1:1<=n)(hn:n<=4){r:Nat->List UInt8}{P:Nat->Nat->Int}(hP:∀j,Jkn (P j)){m:Nat}(hm:m<=16){f:Nat->Int}(hf:Jms m f){T:Int}(hT:0<=T/\T<=1073741824){j:Nat}(hj:j<m):
  J7e (hG n r (λk=>J8s (P k) n) f j) (J8s (P j) n) T=some (.inr (0,([hG n r (λk=>J8s (P k) n) f j],J8s (P j) n,T,false,()))):=by
 have hl:(J8s (P j) n).length=n:=by simp[J8s]
 have fj:=hf.1 j hj
 rw[new_eq _ _ _ (Jos _ n) (by omega)]
 unfold newS
 rw[if_pos ⟨Jmc (by omega) fj.1 (by omega),Jg5 (hP j) h1 hn,by rw[Jwu];exact Jj8 _,hT.1,hT.2⟩]
theorem Kdq(n:Nat) r P f (j:Nat):genB n r (λk=>J8s (P k) n) f j=sgB n r P f j (λ_=>true):=by
 unfold genB sgB
 rw[Jrx]
theorem K9o(n:Nat)(h:n<=1000000000):J3z (n:Int)=some []:=by
 unfold J3z
 rw[oF,Int.sub_zero,oW]
 by_cases c:(0:Int)<(n:Int)
 ·rw[J8w c,J8i ⟨rfl,rfl⟩,J8i (by rw[List.length_replicate];omega),oN]
  rfl
 ·rw[J90 c]
theorem Jqj(l:List (List Pr))(h:l.flatten.length<=1000000000)(hl:l.length<=1000000):J5 l=some l.flatten:=by
 have ht:∀i,((l.take i).flatten).length<=1000000000:=λi=>Nat.le_trans (Jem l i) h
 have m1:J5_1 l 0 l (l.length:Int) 0=some (l,(l.flatten.length:Int)):=by
  unfold J5_1
  have:=J8u (step:=λ(s:Int×Int)=>J5_1_step l s.1 l (l.length:Int) s.2) (λi (_:Unit)=>((((l.take i).flatten).length:Int),(i:Int))) (λ_ _=>()) (λ_=>(l,(l.flatten.length:Int))) l.length (λ_ _=>True) (λi w hi _=>⟨?_,trivial⟩) (λw _=> ?_) l.length 0 () (by omega) trivial
  ·exact this
  ·unfold J5_1_step
   have e:=congrArg List.length (getD_take l hi)
   rw[List.length_append]at e
   have b:=ht (i+1)
   rw[oT,oN,Int.toNat_natCast,oW,oF,oW]
   congr 3
   omega
  ·unfold J5_1_step
   rw[oF,List.take_of_length_le (Nat.le_refl _)]
 have m2:J5_2 l (l.length:Int) 0 []=some l.flatten:=by
  unfold J5_2
  have:=J8u (step:=λ(s:Int×List Pr)=>J5_2_step l (l.length:Int) s.1 s.2) (λi (_:Unit)=>((i:Int),(l.take i).flatten)) (λ_ _=>()) (λ_=>l.flatten) l.length (λ_ _=>True) (λi w hi _=>⟨?_,trivial⟩) (λw _=> ?_) l.length 0 () (by omega) trivial
  ·exact this
  ·show J5_2_step l (l.length:Int) (i:Int) ((l.take i).flatten)=_
   unfold J5_2_step
   have e:=congrArg List.length (getD_take l hi)
   rw[List.length_append]at e
   have b:=ht (i+1)
   rw[oT,oN,Int.toNat_natCast,oN,oW,getD_take l hi]
   rfl
  ·unfold J5_2_step
   rw[oF,List.take_of_length_le (Nat.le_refl _)]
 unfold J5
 rw[m1,J8f]
 simp only
 rw[K9o _ h,J8f,m2,J8f]
abbrev Stt:=List Pr×Int×List (List Pr)×Unit
def Jx7(p:Pr):Bool:= !decide (p.1=[])&&(decide ((p.1.length:Int)<=16)&&decide ((p.2.1.length:Int)<=24))
theorem K4q p:J7z p=some (Jx7 p):=by
 unfold J7z Jx7
 cases decide (p.1=[])<;>cases decide ((p.1.length:Int)<=16)<;>rfl
def K5i(l:List Pr)(p:Pr):List Pr:=if Ji5 l p.1 then l.take (J8o l p.1)++p::l.drop (J8o l p.1+1)else l.take (J8o l p.1)++p::l.drop (J8o l p.1)
def K3c(l:List Pr)(k:List UInt8):List Pr:=if Ji5 l k then l.take (J8o l k)++l.drop (J8o l k+1)else l
def Jpl(l:List Pr)(p:Pr):List Pr×Bool:=if Jx7 p&&(Ji5 l p.1||decide (l.length<30))then(K5i l p,true)else(l,false)
theorem Jeu(h:Ji5 l k=true):J8o l k<l.length/\(l.getD (J8o l k) zPr).1=k:=by
 unfold Ji5 at h;rw[decide_eq_true_eq]at h;exact h
theorem Jx0(l:List Pr)(hr:Jb6 l)(hl:l.length<=1000) p:J6z l p=some (Jpl l p):=by
 have hb:=below_le l p.1
 have c3:∀a b c:List Pr,J5 [a,b,c]=some (a++(b++(c++[])))\/1000000000<(a++(b++(c++[]))).length:=λa b c=>by
  by_cases q:([a,b,c]:List (List Pr)).flatten.length<=1000000000
  ·exact .inl (Jqj _ q (by simp))
  ·grind
 have c4:∀a c:List Pr,a.length<=1000->c.length<=1000->J5 [a,[p],c]=some (a++p::c):=λa c h1 h2=>by
  grind
 unfold J6z Jpl K5i
 rw[Jjy l hr hl,J8f,K4q,J8f,oW]
 cases hm:Jx7 p with
 |false=>rfl
 | true=>
  rw[Bool.not_true,J8y,Bool.true_and]
  cases ha:Ji5 l p.1 with
  |true=>
   have:=(Jeu ha).1
   have e1:Ja1 l 0 (J8o l p.1:Int)=l.take (J8o l p.1):=by rw[Jgu,Int.toNat_natCast]
   have e2:Ja1 l ((J8o l p.1:Int)+1) (l.length:Int)=l.drop (J8o l p.1+1):=by rw[Jbt];rfl
   rw[Bool.not_true,J8y,Jbz,oN,oN,e1,e2,c4 _ _ (by rw[List.length_take];omega) (by rw[List.length_drop];omega),J8f,Bool.true_or,if_pos rfl,if_pos rfl]
  |false=>
   have e1:Ja1 l 0 (J8o l p.1:Int)=l.take (J8o l p.1):=by rw[Jgu,Int.toNat_natCast]
   have e2:Ja1 l (J8o l p.1:Int) (l.length:Int)=l.drop (J8o l p.1):=by rw[Jbt,Int.toNat_natCast]
   rw[Bool.not_false,Jbz,Bool.false_or]
   by_cases c:l.length<30
   ·rw[oF,J8y,oN,oN,e1,e2,c4 _ _ (by rw[List.length_take];omega) (by rw[List.length_drop];omega),J8f,decide_eq_true c,if_pos rfl,if_neg (by simp)]
   ·rw[oT,decide_eq_false c,if_neg (by simp)]
theorem Ke0(l:List Pr)(hr:Jb6 l)(hl:l.length<=1000) k:J8c l k=some (K3c l k):=by
 unfold J8c K3c
 have hb:=below_le l k
 rw[Jjy l hr hl,J8f,oW]
 cases ha:Ji5 l k with
 |false=>rfl
 |true=>
  have:=(Jeu ha).1
  have e1:Ja1 l 0 (J8o l k:Int)=l.take (J8o l k):=by rw[Jgu,Int.toNat_natCast]
  have e2:Ja1 l ((J8o l k:Int)+1) (l.length:Int)=l.drop (J8o l k+1):=by rw[Jbt];rfl
  have hc:=Jqj [l.take (J8o l k),l.drop (J8o l k+1)] (by simp;omega) (by simp)
  have e3:([l.take (J8o l k),l.drop (J8o l k+1)]:List (List Pr)).flatten=l.take (J8o l k)++l.drop (J8o l k+1):=by simp
  rw[e3]at hc
  rw[Bool.not_true,J8y,oN,oN,e1,e2,hc,J8f,if_pos rfl]
theorem Jq9(h:Jb6 l)(n:Nat):Jb6 (l.take n):=h.sublist (List.take_sublist n l)
theorem Jq8(h:Jb6 l)(n:Nat):Jb6 (l.drop n):=h.sublist (List.drop_sublist n l)
theorem Jo2{l:List Pr}{k:List UInt8}{p:Pr}(h:p∈l.take (J8o l k)):J97 p.1 k=true:=by
 obtain⟨i,hi,rfl⟩:=List.getElem_of_mem h
 rw[List.length_take]at hi
 have:=Jhm l k i (by omega)
 grind
theorem Jlr{l:List Pr}{n:Nat}{p:Pr}(h:p∈l.drop n):∃i,n<=i/\i<l.length/\l.getD i zPr=p:=by
 obtain⟨i,hi,rfl⟩:=List.getElem_of_mem h
 rw[List.length_drop]at hi
 refine⟨n+i,by omega,by omega, ?_⟩
 grind
theorem Jwc(hr:Jb6 l){k:List UInt8}{n:Nat}(h:Ji5 l k=false/\n=J8o l k\/Ji5 l k=true/\n=J8o l k+1){p:Pr}(hp:p∈l.drop n):J97 k p.1=true:=by
 obtain⟨i,h1,h2,rfl⟩:=Jlr hp
 rcases h with⟨ha,rfl⟩|⟨ha,rfl⟩
 ·have b:J97 (l.getD i zPr).1 k=false:=by
   cases q:J97 (l.getD i zPr).1 k with
   |false=>rfl
   |true=>have:=(Jbp hr k h2).1 q;omega
  rcases Jk9 _ _ b with e|e
  ·exact absurd ((Jza hr k).2 ⟨_,Jae h2,e⟩) (by rw[ha];simp)
  ·exact e
 ·have e:=(Jeu ha).2
  have:=Jjl hr (i:=J8o l k) (by omega) h2
  rw[e]at this;exact this
theorem K5j{l:List Pr}(hr:Jb6 l)(p:Pr):Jb6 (K5i l p):=by
 have key:∀n,(Ji5 l p.1=false/\n=J8o l p.1\/Ji5 l p.1=true/\n=J8o l p.1+1)->Jb6 (l.take (J8o l p.1)++p::l.drop n):=λn hn=>by
  refine List.pairwise_append.2 ⟨Jq9 hr _,List.pairwise_cons.2 ⟨λq hq=>Jwc hr hn hq,Jq8 hr _⟩,λa ha b hb=> ?_⟩
  have h1:=Jo2 ha
  rcases List.mem_cons.1 hb with rfl|hb
  ·exact h1
  ·exact Jb1 _ _ _ h1 (Jwc hr hn hb)
 unfold K5i
 grind
theorem K3d{l:List Pr}(hr:Jb6 l)(k:List UInt8):Jb6 (K3c l k):=by
 unfold K3c
 cases ha:Ji5 l k with
 |false=>rw[if_neg (by simp)];exact hr
 |true=>
  refine List.pairwise_append.2 ⟨Jq9 hr _,Jq8 hr _,λa ha2 b hb=> ?_⟩
  exact Jb1 _ _ _ (Jo2 ha2) (Jwc hr (.inr ⟨ha,rfl⟩) hb)
theorem K4(l:List Pr)(p:Pr):(K5i l p).length=if Ji5 l p.1 then l.length else l.length+1:=by
 unfold K5i
 cases ha:Ji5 l p.1 with
 |true=>
  have:=(Jeu ha).1
  grind
 |false=>rw[if_neg (by simp),if_neg (by simp),List.length_append,List.length_cons,List.length_take,List.length_drop];omega
theorem Jym(l:List Pr) k:(K3c l k).length<=l.length:=by
 unfold K3c
 split
 ·rw[List.length_append,List.length_take,List.length_drop];omega
 ·exact Nat.le_refl _
theorem K6b(hr:Jb6 l) p:Jb6 (Jpl l p).1:=by
 unfold Jpl
 split
 ·exact K5j hr p
 ·exact hr
theorem Kah(hl:l.length<=30) p:(Jpl l p).1.length<=30:=by
 unfold Jpl
 split
 ·rw[K4]
  grind
 ·exact hl
theorem K9s(h:q∈K5i l p):q=p\/q∈l:=by
 unfold K5i at h
 grind
theorem K89(h:q∈K3c l k):q∈l:=by
 unfold K3c at h
 split at h
 ·rcases List.mem_append.1 h with h|h
  ·exact List.mem_of_mem_take h
  ·exact List.mem_of_mem_drop h
 ·exact h
def Jeo(l:List Pr):Prop:=Jb6 l/\l.length<=30/\∀p∈l,p.1.length<=16/\p.2.1.length<=24
theorem Jk3:Jeo []:=⟨List.Pairwise.nil,by simp,by simp⟩
theorem Kl(h:Jeo l) p:Jeo (Jpl l p).1:=by
 refine⟨K6b h.1 p,Kah h.2.1 p,λq hq=> ?_⟩
 unfold Jpl at hq
 split at hq
 ·rename_i c
  rw[Bool.and_eq_true]at c
  have hm:=c.1
  unfold Jx7 at hm
  simp at hm
  rcases K9s hq with rfl|hq
  ·omega
  ·exact h.2.2 q hq
 ·exact h.2.2 q hq
theorem K8a(h:Jeo l) k:Jeo (K3c l k):=⟨K3d h.1 k,by have:=Jym l k;have:=h.2.1;omega,λq hq=>h.2.2 q (K89 hq)⟩
def Jm6(s:Stt):Prop:=Jeo s.1/\0<=s.2.1/\s.2.1<=16/\(s.2.2.1.length:Int)=min s.2.1 6/\∀l∈s.2.2.1,Jeo l
theorem K6q:Jm6 ([],0,[],()):=⟨Jk3,by decide,by decide,by decide,by simp⟩
theorem Kv(s:Stt)(h:Jm6 s) p:J1f p s=some ((Jpl s.1 p).2,((Jpl s.1 p).1,s.2.1,s.2.2.1,())):=by
 have:=h.1.2.1
 unfold J1f
 rw[Jx0 _ h.1.1 (by omega),J8f]
theorem Kc7(h:Jm6 s) p:Jm6 ((Jpl s.1 p).1,s.2.1,s.2.2.1,()):=⟨Kl h.1 p,h.2⟩
theorem Kan(s:Stt)(h:Jm6 s) k:J5m k s=some (K3c s.1 k,s.2.1,s.2.2.1,()):=by
 have:=h.1.2.1
 unfold J5m
 rw[Ke0 _ h.1.1 (by omega),J8f]
theorem st_del(h:Jm6 s) k:Jm6 (K3c s.1 k,s.2.1,s.2.2.1,()):=⟨K8a h.1 k,h.2⟩
def Jug(k:List (List Pr))(l:List Pr):List (List Pr):=if 6<k.length+1 then(k++[l]).drop 1 else k++[l]
def Jim(s:Stt):Int×Stt:=if s.2.1=16 then(0,s)else(s.2.1+1,(s.1,s.2.1+1,Jug s.2.2.1 s.1,()))
theorem Jkc(s:Stt)(h:s.1.length<=2147483648):J2r s=some s.1:=by
 unfold J2r Ji
 rw[J8i h,J8f]
theorem Jj2 s (h:Jm6 s):J3d s=some (Jim s):=by
 obtain⟨⟨h1,h2,_⟩,h3,h4,h5,h6⟩:=h
 unfold J3d Jim Jug
 by_cases c:s.2.1=16
 ·rw[J8w c,if_pos c]
 ·have e:J2d s.2.2.1=some s.2.2.1:=by unfold J2d;rw[oN]
  rw[J90 c,if_neg c,e,J8f,oW,Jkc _ (by show s.1.length<=_;omega),J8f,J8i (by simp;omega)]
  have hl:(s.2.2.1++[s.1]).length=s.2.2.1.length+1:=by rw[List.length_append];rfl
  rw[hl]
  by_cases q:6<s.2.2.1.length+1
  ·rw[oT,oN,if_pos q,<-hl,Jbt];rfl
  ·rw[oF,if_neg q]
theorem K4f(k:List (List Pr)) l (h:k.length<=6):(Jug k l).length=min (k.length+1) 6:=by
 unfold Jug
 grind
theorem K4g(h:x∈Jug k l):x∈k\/x=l:=by
 unfold Jug at h
 grind
theorem Jp1(h:Jm6 s):Jm6 (Jim s).2:=by
 obtain⟨h1,h3,h4,h5,h6⟩:=h
 unfold Jim
 by_cases c:s.2.1=16
 ·rw[if_pos c];exact⟨h1,h3,h4,h5,h6⟩
 ·rw[if_neg c]
  refine⟨h1,by show 0<=s.2.1+1;omega,by show s.2.1+1<=16;omega, ?_,λl hl=> ?_⟩
  ·show((Jug s.2.2.1 s.1).length:Int)=min (s.2.1+1) 6
   rw[K4f _ _ (by omega)];omega
  ·rcases K4g hl with hl|rfl
   ·exact h6 l hl
   ·exact h1
def Kbo(s:Stt):Int:=s.2.1 - (s.2.2.1.length:Int)+1
def atS(s:Stt)(n:Int):List Pr×Bool:=if n<Kbo s\/s.2.1<n then([],false)else(s.2.2.1.getD (n - Kbo s).toNat [],true)
theorem low_eq s (h:Jm6 s):J3e s=some (Kbo s):=by
 obtain⟨h1,h3,h4,h5,h6⟩:=h
 unfold J3e Kbo
 rw[oX (s.2.1 - _),oW]
theorem Jua{k:List (List Pr)}(h:∀l∈k,Jeo l)(i:Nat):Jeo (k.getD i []):=by
 by_cases c:i<k.length
 ·exact h _ (Jae c)
 ·rw[List.getD_eq_getElem?_getD,List.getElem?_eq_none (by omega)]
  exact Jk3
theorem K6o(s:Stt)(h:Jm6 s)(n:Int):J5r n s=some (atS s n):=by
 have hlow:=low_eq s h
 obtain⟨h1,h3,h4,h5,h6⟩:=h
 have hl:Kbo s=s.2.1 - (s.2.2.1.length:Int)+1:=rfl
 unfold J5r atS
 rw[hlow,J8f]
 by_cases c1:n<Kbo s
 ·rw[J8w c1,if_pos (.inl c1)]
 ·rw[J90 c1]
  by_cases c2:s.2.1<n
  ·rw[J8w c2,if_pos (.inr c2)]
  ·have:=(Jua h6 (n - Kbo s).toNat).2.1
   rw[J90 c2,oJ,J8f,oW,oN]
   unfold Ji
   rw[oN,J8f]
theorem Jns:∀{a b:List Pr},Jb6 a->Jb6 b->(∀q,q∈a↔q∈b)->a=b
 |[],[],_,_,_=>rfl
 |[],y::b,_,_,h=>by cases (h y).2 List.mem_cons_self
 |x::a,[],_,_,h=>by cases (h x).1 List.mem_cons_self
 | x ::a,y::b,ha,hb,h=>by
  obtain⟨a1,a2⟩:=List.pairwise_cons.1 ha
  obtain⟨b1,b2⟩:=List.pairwise_cons.1 hb
  have e:x=y:=by
   rcases List.mem_cons.1 ((h x).1 List.mem_cons_self)with e|e
   ·exact e
   ·rcases List.mem_cons.1 ((h y).2 List.mem_cons_self)with e2|e2
    ·exact e2.symm
    ·have:=Jb1 _ _ _ (b1 x e) (a1 y e2)
     rw[Je7]at this;cases this
  subst e
  congr 1
  refine Jns a2 b2 λq=>⟨λhq=> ?_,λhq=> ?_⟩
  ·rcases List.mem_cons.1 ((h q).1 (List.mem_cons_of_mem _ hq))with e|e
   ·have:=a1 q hq
    rw[e,Je7]at this;cases this
   ·exact e
  ·rcases List.mem_cons.1 ((h q).2 (List.mem_cons_of_mem _ hq))with e|e
   ·have:=b1 q hq
    rw[e,Je7]at this;cases this
   ·exact e
theorem Jxs(h:Jeo l):Jy9 l:=⟨by have:=h.2.1;omega,λp hp=>by have:=h.2.2 p hp;omega⟩
def Jpn(n:Nat)(r:List UInt8):List UInt8:=sha (83::(Jev (n:Int)++r))
noncomputable def Jcu(l:List Pr):List UInt8:=Jpn l.length (Jc1 (J9c l))
theorem K6m x0 x1 (x2:Int) (x3:Int) x4 x5:J2n_1_step x0 x1 x2 x3 x4 x5=
  (J8g (decide (x3<x2)) (need (0<=x3/\x3<(List.length x1:Int)) (J8e (J6y (List.getD x1 (Int.toNat x3) zPr)) (λu4=>need (List.length x5+List.length ([u4]:List (List UInt8))<=2147483648) (some (.inl ((w64 (x3+(1:Int))),(x5++([u4]:List (List UInt8))))))))) (some (.inr (x0,x4,x5))):Option ((Int×List (List UInt8))⊕((List Pr)×List UInt8×List (List UInt8)))):=rfl
theorem Jkd l (h:Jy9 l):J2n l=some (Jcu l):=by
 have hl:=h.1
 have m1:J2n_1 l l (l.length:Int) 0 (List.replicate 32 0) []=some (l,List.replicate 32 0,J9c l):=by
  have:=J8u (step:=λ(s:Int×List (List UInt8))=>J2n_1_step l l (l.length:Int) s.1 (List.replicate 32 0) s.2) (λi (_:Unit)=>((i:Int),J9c (l.take i))) (λ_ _=>()) (λ_=>(l,List.replicate 32 0,J9c l)) l.length (λ_ _=>True) (λi w hi _=>⟨?_,trivial⟩) (λw _=> ?_) l.length 0 () (by omega) trivial
  ·exact this
  ·rw[K6m,oT,oN,Int.toNat_natCast,Jx3 _ (h.2 _ (Jae hi)),J8f,J8i (by rw[J9n];simp;omega),Jh4 l hi,oW]
   rfl
  ·rw[K6m,oF,List.take_of_length_le (Nat.le_refl _)]
 have hp:Jdf [(l.length:Int)]=Jev l.length:=by simp[Jdf]
 have h1:=J9o (l.length:Int)
 have h2:=Jb4 (J9c l)
 have hf:[Jev (l.length:Int),Jc1 (J9c l)].flatten=Jev (l.length:Int)++Jc1 (J9c l):=by simp
 unfold J2n
 rw[m1,J8f]
 rw[Jso _ (by rw[J9n];omega) (Jdj h),J8f,put_eq _ (by simp),J8f,hp,Jb5 _ _ (by rw[hf,List.length_append];omega) (by simp),hf]
 rfl
theorem K5p(n:Nat)(r:List UInt8)(hr:r.length=32):J2f (n:Int) r=some (Jpn n r):=by
 have h1:=J9o (n:Int)
 have hf:[Jev (n:Int),r].flatten=Jev (n:Int)++r:=by simp
 unfold J2f
 rw[Jex,J8f,Ja3 _ _ (by rw[hf,List.length_append];omega) (by simp),hf]
 rfl
def Jiu(l:List α):List α:=l.drop (l.length - 6)
theorem Jjm(l:List α):(Jiu l).length=min l.length 6:=by unfold Jiu;rw[List.length_drop];omega
theorem Jqb(l:List α)(x:α):Jiu (l++[x])=if 6<(Jiu l).length+1 then(Jiu l++[x]).drop 1 else Jiu l++[x]:=by
 rw[Jjm]
 unfold Jiu
 rw[List.length_append,List.length_singleton]
 split
 ·rw[List.drop_append_of_le_length (by omega),List.drop_append_of_le_length (by rw[List.length_drop];omega),List.drop_drop]
  congr 2;omega
 ·grind
noncomputable def rR(R:List (List Pr))(j:Nat):List UInt8:=Jcu (R.getD j [])
theorem K5l R (j:Nat):(rR R j).length=32:=Ja8 _
theorem K5m(R:List (List Pr)) l (h:j<R.length):rR (R++[l]) j=rR R j:=by
 unfold rR;rw[List.getD_eq_getElem?_getD,List.getD_eq_getElem?_getD,List.getElem?_append_left h]
theorem Keq(R:List (List Pr)) l:rR (R++[l]) R.length=Jcu l:=by
 unfold rR;simp
section
variable (n : Nat) (p : Nat → Int) (f : Nat → Int)
noncomputable def BL(R:List (List Pr)):List Block:=blG n (rR R) (λ_=>J8s p n) f R.length
noncomputable def hL(R:List (List Pr))(j:Nat):Hdr:=hG n (rR R) (λ_=>J8s p n) f j
noncomputable def gL(R:List (List Pr))(j:Nat):Block:=genB n (rR R) (λ_=>J8s p n) f j
theorem Jy8(R:List (List Pr)):(BL n p f R).length=R.length:=Jfo _ _ _ _ _
theorem BL_cg(R:List (List Pr)) l (h:k<=R.length):blG n (rR (R++[l])) (λ_=>J8s p n) f k=blG n (rR R) (λ_=>J8s p n) f k:=
 Jto n k λj hj=>⟨K5m R l (by omega),rfl,rfl⟩
theorem Kcl(R:List (List Pr)) l:BL n p f (R++[l])=BL n p f R++[blkR n (Jcu l) (J8s p n) (BL n p f R) (f R.length)]:=by
 unfold BL
 rw[List.length_append]
 show blG n (rR (R++[l])) _ f R.length++[_]=_
 rw[BL_cg n p f R l (Nat.le_refl _),Keq]
theorem Kdv(R:List (List Pr)) l (h:j<R.length):hL n p f (R++[l]) j=hL n p f R j:=by
 unfold hL hG;rw[BL_cg n p f R l (by omega),K5m R l h]
theorem Kck(R:List (List Pr))(h:j<R.length):(BL n p f R).getD j Jtc=gL n p f R j:=K2u _ _ _ _ h
end
theorem Jds(n:Nat):(J8t n).length=n:=Jb7 _ _
theorem Jhy(n:Nat):(J8x n).length=n:=Jb7 _ _
theorem Jbr p (n:Nat):(J8s p n).length=n:=Jb7 _ _
theorem Jsy(h:Hdr)(hh:Jb3 h)(h1:1<=h.1)(h2:h.1<=16) nm (i:Nat):J7x (Jc0 (Jcn i)) h nm (Jcn i)=some (sgS h nm (Jcn i)):=by
 unfold J7x
 rw[K6w h hh,J8f,By_eq _ (by rw[Jb9];omega) (Jfw _) _ _ (Jhf i) _ h1 h2 (by rw[Jke];omega)]
 rfl
theorem Jkr p (hn:n<=4):J3 (J8s p n)=some (J8s p n):=Jjc _ (by rw[Jbr];omega)
theorem K34(l:List Block)(h:l.length<=1000):J14 l=some l:=by unfold J14;rw[oN]
theorem K90 p (hp:Jkn p) {n:Nat} (h1:1<=n) (hn:n<=4):J4c (J8s p n) (J8t n)=some ((),J8t n,J8x n,J8s p n,([],0,[],()),([]:List Block)):=by
 have e1:=Jg5 hp h1 hn
 have e2:J4c_1 (J8t n) (n:Int) 0 () (J8t n) [] (J8s p n) ([],0,[],())=some ((),J8t n,J8x n,J8s p n,([],0,[],())):=by
  have:=J8u (step:=λ(s:Int×List (List (List UInt8)))=>J4c_1_step (J8t n) (n:Int) s.1 () (J8t n) s.2 (J8s p n) ([],0,[],())) (λi (_:Unit)=>((i:Int),J8x i)) (λ_ _=>()) (λ_=>((),J8t n,J8x n,J8s p n,([],0,[],()))) n (λ_ _=>True)
   (λi w hi _=>⟨by
    unfold J4c_1_step
    have g1:(J8t n).getD i (List.replicate 32 (0:UInt8))=Jcn i:=Jaf _ _ hi
    rw[oT,J8i (by rw[Jds];omega),Int.toNat_natCast,g1,Kco _ (Jhf i),J8f,J8i (by rw[Jhy,List.length_singleton];omega),oW]
    rw[show J8x (i+1)=J8x i++[Jc0 (Jcn i)]from Jme _ _]
    rfl,trivial⟩) (λw _=>by
    unfold J4c_1_step
    rw[oF]) n 0 () (by omega) trivial
  exact this
 unfold J4c
 rw[right_eq _ (by rw[Jbr];omega),J8f,e1,Jbr,Jds]
 rw[show(!true)=false from rfl,J8y,Jcq rfl]
 rw[show J4z (J8t n)=some (J8t n)from by unfold J4z;rw[J8i (by rw[Jds];omega)],J8f,Jkr p hn,J8f]
 show J8e (J4c_1 (J8t n) (n:Int) 0 () (J8t n) [] (J8s p n) ([],0,[],())) _=_
 rw[e2]
 rfl
theorem hcA(n:Nat)(hn:n<=4) p (h:Hdr) (hh:Jb3 h) (h1:1<=h.1) (h2:h.1<=16) st B g a b:
  J9_2 (n:Int) 0 () (J8t n) (J8x n) (J8s p n) st B h g () [] a b=some ((),J8t n,J8x n,J8s p n,st,B,g,(),sgJ h (List.range n),a,b):=by
 have:=J8u (step:=λ(s:Int×List J9q)=>J9_2_step (n:Int) s.1 () (J8t n) (J8x n) (J8s p n) st B h g () s.2 a b) (λi (_:Unit)=>((i:Int),sgJ h (List.range i))) (λ_ _=>()) (λ_=>((),J8t n,J8x n,J8s p n,st,B,g,(),sgJ h (List.range n),a,b)) n (λ_ _=>True)
  (λi w hi _=>⟨by
   unfold J9_2_step
   have g1:(J8t n).getD i (List.replicate 32 (0:UInt8))=Jcn i:=Jaf _ _ hi
   have g2:(J8x n).getD i []=Jc0 (Jcn i):=Jaf _ _ hi
   have g3:((J8s p n).getD i Jc8).1=nm i:=by rw[show(J8s p n).getD i Jc8=Jjq p i from Jaf _ _ hi];rfl
   rw[oT,J8i (by rw[Jbr];omega),J8i (by rw[Jhy];omega),J8i (by rw[Jds];omega),Int.toNat_natCast,g1,g2]
   rw[show((([]:List UInt8),(0:Int),(List.replicate 32 (0:UInt8)),()):Val)=Jc8 from rfl,g3,Jsy h hh h1 h2,J8f,J8i (by rw[Jhg,List.length_range];simp;omega),oX ((i:Int)+1),Jmm]
   rfl,trivial⟩) (λw _=>by
   unfold J9_2_step
   rw[oF]) n 0 () (by omega) trivial
 exact this
theorem hcB(n:Nat)(hn:n<=4) p (h:Hdr) (hh:Jb3 h) (h1:1<=h.1) (h2:h.1<=16) st B g a b:
  J9_1 (J8s p n) (n:Int) 0 () (J8t n) (J8x n) (J8s p n) st B h g () [] a b=some ((),J8t n,J8x n,J8s p n,st,B,g,(),sgJ h (List.range n),a,b):=by
 have:=J8u (step:=λ(s:Int×List J9q)=>J9_1_step (J8s p n) (n:Int) s.1 () (J8t n) (J8x n) (J8s p n) st B h g () s.2 a b) (λi (_:Unit)=>((i:Int),sgJ h (List.range i))) (λ_ _=>()) (λ_=>((),J8t n,J8x n,J8s p n,st,B,g,(),sgJ h (List.range n),a,b)) n (λ_ _=>True)
  (λi w hi _=>⟨by
   unfold J9_1_step
   have g1:(J8t n).getD i (List.replicate 32 (0:UInt8))=Jcn i:=Jaf _ _ hi
   have g2:(J8x n).getD i []=Jc0 (Jcn i):=Jaf _ _ hi
   have g3:((J8s p n).getD i Jc8).1=nm i:=by rw[show(J8s p n).getD i Jc8=Jjq p i from Jaf _ _ hi];rfl
   rw[oT,J8i (by rw[Jbr];omega),J8i (by rw[Jhy];omega),J8i (by rw[Jds];omega),Int.toNat_natCast,g1,g2]
   rw[show((([]:List UInt8),(0:Int),(List.replicate 32 (0:UInt8)),()):Val)=Jc8 from rfl,g3,Jsy h hh h1 h2,J8f,J8i (by rw[Jhg,List.length_range];simp;omega),oX ((i:Int)+1),Jmm]
   rfl,trivial⟩) (λw _=>by
   unfold J9_1_step
   rw[oF]) n 0 () (by omega) trivial
 exact this
def stR(now:List Pr)(R:List (List Pr)):Stt:=(now,(R.length:Int),Jiu R,())
theorem K4k(h:x∈Jiu l):x∈l:=List.mem_of_mem_drop h
theorem K6p(hn:Jeo now)(hR:∀l∈R,Jeo l)(hl:R.length<=16):Jm6 (stR now R):=by
 refine⟨hn,by show 0<=(R.length:Int);omega,by show(R.length:Int)<=16;omega, ?_,λl hl=>hR l (K4k hl)⟩
 show((Jiu R).length:Int)=min (R.length:Int) 6
 rw[Jjm];omega
theorem K1u(hl:R.length<16):Jim (stR now R)=((R.length:Int)+1,stR now (R++[now])):=by
 unfold Jim
 rw[if_neg (show ¬(stR now R).2.1=16 by show ¬(R.length:Int)=16;omega)]
 unfold stR Jug
 rw[Jqb,List.length_append]
 rfl
theorem stR_at(h:Int):atS (stR now R) h=if 1<=h/\(R.length:Int) - 6<h/\h<=(R.length:Int)then(R.getD (h - 1).toNat [],true)else([],false):=by
 have hk:=Jjm R
 have hlow:Kbo (stR now R)=(R.length:Int) - ((Jiu R).length:Int)+1:=rfl
 unfold atS
 rw[hlow,show(stR now R).2.1=(R.length:Int)from rfl,hk]
 by_cases c:1<=h/\(R.length:Int) - 6<h/\h<=(R.length:Int)
 ·rw[if_pos c,oJ]
  congr 1
  show(Jiu R).getD _ []=_
  unfold Jiu
  rw[List.getD_eq_getElem?_getD,List.getElem?_drop]
  congr 2;omega
 ·rw[if_neg c,oI]
section
variable {n : Nat} {p : Nat → Int} {f : Nat → Int}
theorem Kd8(hp:Jkn p)(h1:1<=n)(hn:n<=4)(hf:0<=f 0/\f 0<=1000000000):J9 (f 0) () (J8t n) (J8x n) (J8s p n) ([],0,[],()) []=some (1,(),J8t n,J8x n,J8s p n,stR [] [[]],BL n p f [[]]):=by
 have hsm:=Jmi p n hn
 have e0:Jav ((1:Int),f 0,Jcu [],List.replicate 32 (0:UInt8),setH (J8s p n),List.replicate 32 (0:UInt8),())=true:=by
  rw[Jba];show((1:Int)<=1/\(1:Int)<=16)/\0<=f 0/\f 0<=1073741824;omega
 have hh:Jb3 ((1:Int),f 0,Jcu [],setH (J8s p n),setH (J8s p n),List.replicate 32 (0:UInt8),()):=⟨Ja8 _,Jaq _,Jaq _,by simp⟩
 unfold J9
 rw[Jkc _ (by simp),J8f,Jkd [] ⟨by simp,by simp⟩,J8f,Jbc _ hsm,J8f,Jfc,J8f,show w64 ((([]:List Block).length:Int)+1)=1 from rfl,e0]
 rw[show(!true)=false from rfl,J8y,J8f,Jkr p hn,J8f,J8f,Jbr]
 rw[hcA n hn p _ hh (Int.le_refl 1) (show(1:Int)<=16 by omega),J8f,K34 [] (by simp),J8f,Jj2 _ K6q,J8f]
 rfl
theorem Kd9(hp:Jkn p)(h1:1<=n)(hn:n<=4)(hR:1<=R.length/\R.length<16)(hrows:∀l∈R,Jeo l)(hnow:Jeo now)(hf:∀j,j<=R.length->0<=f j/\f j<=1000000000)(hlt:f (R.length - 1)<f R.length):
  J9 (f R.length) () (J8t n) (J8x n) (J8s p n) (stR now R) (BL n p f R)=some ((R.length:Int)+1,(),J8t n,J8x n,J8s p n,stR now (R++[now]),BL n p f (R++[now])):=by
 obtain⟨k,hk⟩:∃k,R.length=k+1:=⟨R.length - 1,by omega⟩
 have hsm:=Jmi p n hn
 have hkv:=Jxs hnow
 have hlen:=Jy8 n p f R
 have hs:=K6p hnow hrows (by omega)
 have hfk:=hf (k+1) (by omega)
 have hlast:lastB (BL n p f R)=gL n p f R k:=by
  unfold BL gL;rw[hk];exact K9a _ _ _ _ _
 have e0:Jav (((k+2:Nat):Int),f (k+1),Jcu now,List.replicate 32 (0:UInt8),setH (J8s p n),List.replicate 32 (0:UInt8),())=true:=by
  rw[Jba];show((1:Int)<=((k+2:Nat):Int)/\((k+2:Nat):Int)<=16)/\0<=f (k+1)/\f (k+1)<=1073741824;omega
 have e1:w64 (((k+1:Nat):Int)+1)=((k+2:Nat):Int):=by rw[oW];omega
 have e2:w64 (((k+1:Nat):Int) - 1)=((k:Nat):Int):=by rw[oW];omega
 have e3:(BL n p f R).getD k Jtc=gL n p f R k:=Kck n p f R (by omega)
 have hg:Jb3 (hL n p f R k):=Jni n _ f (K5l R k)
 have hh:Jb3 (((k+2:Nat):Int),f (k+1),Jcu now,setH (J8s p n),setH (J8s p n),sha (72::Jf1 (hL n p f R k)),()):=⟨Ja8 _,Jaq _,Jaq _,Ja8 _⟩
 have e5:Jf1 (hL n p f R k)=Jgr (hL n p f R k):=by
  unfold Jf1 hL
  rw[Jmc (by omega) (hf k (by omega)).1 (by have:=(hf k (by omega)).2;omega),if_pos rfl]
 have ht:(hL n p f R k).2.1=f k:=hG_t _ _ _ _ _
 rw[hk]at hlt⊢
 unfold J9
 rw[Jkc _ (by show now.length<=_;have:=hkv.1;omega),J8f]
 show J8e (J2n now) _=_
 rw[Jkd _ hkv,J8f,Jbc _ hsm,J8f,Jfc,J8f,hlen,hk,e1,e0]
 rw[show(!true)=false from rfl,J8y,oT,e2,J8i ⟨by omega,by omega⟩,show(Int.toNat ((k:Nat):Int))=k from rfl]
 rw[show((((0:Int),(0:Int),(List.replicate 32 (0:UInt8)),(List.replicate 32 (0:UInt8)),(List.replicate 32 (0:UInt8)),(List.replicate 32 (0:UInt8)),()),([]:List J9q),([]:List Val),([]:List Val),()):Block)=Jtc from rfl,e3]
 rw[show(gL n p f R k).1=hL n p f R k from rfl,show(gL n p f R k).2.2.2.1=J8s p n from rfl,ht,J90 (by simp only[Nat.add_sub_cancel]at hlt;omega)]
 rw[Jis _ hg,J8f,Jbc _ hsm,J8f,Jkr p hn,J8f,J8f,Jbr]
 rw[hcB n hn p _ hh (show(1:Int)<=((k+2:Nat):Int)by omega) (show((k+2:Nat):Int)<=16 by omega),J8f,K34 _ (by rw[hlen];omega),J8f,J8i (by rw[hlen];simp;omega),Jj2 _ hs,J8f,e5,K1u (by omega),hk]
 rw[Kcl]
 unfold blkR hdR Kec
 rw[hlen,oJ,oJ,hlast,hk]
 rfl
theorem Kb8(hn:n<=4)(hR:R.length<=16){j:Nat}(hj:j<R.length) st:J1j ((j:Int)+1) () (J8t n) (J8x n) (J8s p n) st (BL n p f R)=some (gL n p f R j,true):=by
 have hlen:=Jy8 n p f R
 have e2:w64 ((j:Int)+1 - 1)=(j:Int):=by rw[oW];omega
 have hpre:Jpk (λ_=>J8s p n) j=J8s p n:=by unfold Jpk;split<;>rfl
 unfold J1j
 rw[hlen,oF,oF,e2,J8i ⟨by omega,by omega⟩,show Int.toNat (j:Int)=j from rfl]
 rw[show((((0:Int),(0:Int),(List.replicate 32 (0:UInt8)),(List.replicate 32 (0:UInt8)),(List.replicate 32 (0:UInt8)),(List.replicate 32 (0:UInt8)),()),([]:List J9q),([]:List Val),([]:List Val),()):Block)=Jtc from rfl,Kck n p f R hj]
 rw[show(gL n p f R j).2.1=sgJ (hL n p f R j) (List.range n)from rfl,show(gL n p f R j).2.2.1=J8s p n from hpre,show(gL n p f R j).2.2.2.1=J8s p n from rfl]
 rw[show J24 (sgJ (hL n p f R j) (List.range n))=some (sgJ (hL n p f R j) (List.range n))from by unfold J24;rw[J8i (by rw[Jhg,List.length_range];omega)],Jkr p hn]
 show some ((hL n p f R j,sgJ (hL n p f R j) (List.range n),J8s p n,J8s p n,()),true)=some ((hL n p f R j,sgJ (hL n p f R j) (List.range n),Jpk (λ_=>J8s p n) j,J8s p n,()),true)
 rw[hpre]
end
def Jep(l:List Int):Prop:=l.Pairwise (· <= ·)
theorem Jnn(x:Int):∀l:List Int,(insI x l).Perm (x::l)
 |[]=>List.Perm.refl _
 |y::r=>by
  unfold insI
  split
  ·exact List.Perm.refl _
  ·exact((Jnn x r).cons y).trans (List.Perm.swap x y r)
theorem Jno(x:Int):∀{l:List Int},Jep l->Jep (insI x l)
 |[],_=>List.pairwise_singleton _ _
 | y::r,h=>by
  unfold insI
  obtain⟨h1,h2⟩:=List.pairwise_cons.1 h
  split
  ·rename_i hxy
   exact List.pairwise_cons.2 ⟨λz hz=>by rcases List.mem_cons.1 hz with rfl|hz;exact hxy;have:=h1 z hz;omega,h⟩
  ·refine List.pairwise_cons.2 ⟨λz hz=> ?_,Jno x h2⟩
   rcases List.mem_cons.1 ((Jnn x r).mem_iff.1 hz)with rfl|hz
   ·omega
   ·exact h1 z hz
theorem Jfh:∀l:List Int,(Jlz l).Perm l
 |[]=>List.Perm.refl _
 |x::r=>(Jnn x _).trans ((Jfh r).cons x)
theorem Jeb:∀l:List Int,Jep (Jlz l)
 |[]=>List.Pairwise.nil
 |x::r=>Jno x (Jeb r)
theorem Jiz(ha:Jep a)(hb:Jep b)(h:a.Perm b):a=b:=
 List.Perm.eq_of_pairwise (λx y _ _ h1 h2=>by omega) ha hb h
theorem Kfp(h:a.Perm b):Jlz a=Jlz b:=Jiz (Jeb a) (Jeb b) ((Jfh a).trans (h.trans (Jfh b).symm))
def K10:List Int->Int->List Int->List Int
 |[],x,B=>x::B
 |y::A,x,B=>if x<y then K10 A x (y::B)else(y::A).reverse++x::B
theorem Jz9:∀(A:List Int) (x:Int) (B:List Int),(K10 A x B).length=A.length+B.length+1
 |[],x,B=>by simp[K10]
 |y::A,x,B=>by
  unfold K10
  split
  ·rw[Jz9];simp;omega
  ·simp;omega
theorem Juf:∀(A:List Int) (x:Int) (B:List Int),(K10 A x B).Perm (A.reverse++x::B)
 |[],x,B=>List.Perm.refl _
 | y::A,x,B=>by
  unfold K10
  split
  ·refine(Juf A x (y::B)).trans ?_
   grind
  ·exact List.Perm.refl _
theorem Jnp:∀{A:List Int} {x:Int} {B:List Int},Jep (A.reverse++B)->(∀b∈B,x<=b)->Jep (K10 A x B)
 |[],x,B,h,hb=>List.pairwise_cons.2 ⟨hb,h⟩
 | y::A,x,B,h,hb=>by
  unfold K10
  split
  ·refine Jnp (by rw[List.reverse_cons,List.append_assoc]at h;exact h) λb hb'=> ?_
   grind
  ·obtain⟨h1,h2,h3⟩:=List.pairwise_append.1 h
   refine List.pairwise_append.2 ⟨h1,List.pairwise_cons.2 ⟨hb,h2⟩,λa ha b hb'=> ?_⟩
   grind
theorem Ke4 a b:J79 a b=some (decide (a<b)):=by
 unfold J79 J6r
 rw[J8f,show(!decide (a=a))=false from by simp,J8y]
theorem K4a b i (C:List Int):∀(A:List Int) (x:Int) (B:List Int),A.length+B.length+C.length<=1000->
  J2_1 0 b i (A.length:Int) (A.reverse++x::(B++C))=some (0,b,i,K10 A x B++C)
 |[],x,B,hl=>by
  unfold J2_1
  refine J9d ?_
  show J2_1_step 0 b i 0 (x::(B++C))=_
  unfold J2_1_step
  rw[oF]
  rfl
 | y::A,x,B,hl=>by
  simp only[List.length_cons]at hl
  have hd:(y::A).reverse++x::(B++C)=A.reverse++y::x::(B++C):=by simp
  have hlen:(A.reverse++y::x::(B++C)).length=A.length+2+B.length+C.length:=by simp;omega
  have hn:(((y::A).length:Nat):Int)=(A.length:Int)+1:=by simp
  have w1:w64 ((A.length:Int)+1 - 1)=(A.length:Int):=by rw[oW];omega
  have g1:(A.reverse++y::x::(B++C)).getD (A.length+1) 0=x:=by
   grind
  have g2:(A.reverse++y::x::(B++C)).getD A.length 0=y:=by
   simp
  have tn:Int.toNat ((A.length:Int)+1)=A.length+1:=by omega
  have st:J2_1_step 0 b i ((A.length:Int)+1) (A.reverse++y::x::(B++C))=if x<y then some (.inl ((A.length:Int),A.reverse++x::y::(B++C)))else some (.inr (0,b,i,A.reverse++y::x::(B++C))):=by
   unfold J2_1_step
   rw[oT,J8i (by rw[hlen];omega),w1,J8i (by rw[hlen];omega),tn,Int.toNat_natCast,g1,g2,Ke4,J8f]
   by_cases c:x<y
   ·rw[J8w c,if_pos c,J8i (by rw[List.length_set,hlen];omega)]
    congr 3
    rw[List.set_append_right _ _ (by simp),List.length_reverse,show A.length+1 - A.length=1 from by omega]
    rw[show(y::x::(B++C)).set 1 y=y::y::(B++C)from rfl,List.set_append_right _ _ (by simp),List.length_reverse,Nat.sub_self]
    rfl
   ·rw[J90 c,if_neg c]
  rw[hd,hn]
  unfold J2_1 K10
  by_cases c:x<y
  ·rw[if_pos c]at st⊢
   rw[J9v (s':=((A.length:Int),A.reverse++x::((y::B)++C))) st]
   exact K4a b i C A x (y::B) (by simp only[List.length_cons];omega)
  ·rw[if_neg c]at st⊢
   rw[J9d st,hd.symm]
   simp
theorem Jzq(n:Nat)(hn:n<=500):∀(k i:Nat) (d:List Int),d.length=n->i+k=n->1<=i->Jep (d.take i)->∃r,J2_2 0 (n:Int) (i:Int) d=some r/\r.Perm d/\Jep r
 |0,i,d,hd,hi,h1,hs=>by
  refine⟨d, ?_,List.Perm.refl _,by rw[List.take_of_length_le (by omega)]at hs;exact hs⟩
  unfold J2_2
  refine J9d ?_
  show J2_2_step 0 (n:Int) (i:Int) d=_
  unfold J2_2_step
  rw[oF]
 | k+1,i,d,hd,hi,h1,hs=>by
  have hlt:i<d.length:=by omega
  have hsplit:d=(d.take i).reverse.reverse++d[i]::([]++d.drop (i+1)):=by
   simp_all
  have hlA:((d.take i).reverse.length:Int)=(i:Int):=by rw[List.length_reverse,List.length_take];omega
  have hin:=K4a (n:Int) (i:Int) (d.drop (i+1)) (d.take i).reverse d[i] [] (by rw[List.length_reverse,List.length_take,List.length_drop,List.length_nil];omega)
  rw[<-hsplit,hlA]at hin
  have hp:=Juf (d.take i).reverse d[i] []
  have hs2:=Jnp (A:=(d.take i).reverse) (x:=d[i]) (B:=[]) (by rw[List.reverse_reverse,List.append_nil];exact hs) (by simp)
  have hlr:=Jz9 (d.take i).reverse d[i] []
  rw[List.length_reverse,List.length_take,List.length_nil]at hlr
  have hpd:(K10 (d.take i).reverse d[i] []++d.drop (i+1)).Perm d:=by
   grind
  obtain⟨r,e,p1,p2⟩:=Jzq n hn k (i+1) (K10 (d.take i).reverse d[i] []++d.drop (i+1)) (by rw[hpd.length_eq];exact hd) (by omega) (by omega) (by
   rw[List.take_append_of_le_length (by omega),List.take_of_length_le (by omega)];exact hs2)
  refine⟨r, ?_,p1.trans hpd,p2⟩
  unfold J2_2 at e⊢
  rw[J9v (s':=(0,(n:Int),((i+1:Nat):Int),K10 (d.take i).reverse d[i] []++d.drop (i+1))) (by
   show J2_2_step 0 (n:Int) (i:Int) d=_
   unfold J2_2_step
   rw[oT,hin,J8f]
   dsimp only
   rw[oW]
   rfl)]
  exact e
set_option maxRecDepth 100000 in
theorem len_ok:∀n:Nat,n<=12->∃k,J87 (UInt64.ofNat (Int.toNat ((n:Int)%18446744073709551616)))=some k:=by
 intro n hn
 have:n=0\/n=1\/n=2\/n=3\/n=4\/n=5\/n=6\/n=7\/n=8\/n=9\/n=10\/n=11\/n=12:=by omega
 rcases this with rfl|rfl|rfl|rfl|rfl|rfl|rfl|rfl|rfl|rfl|rfl|rfl|rfl<;>exact⟨_,rfl⟩
set_option maxRecDepth 100000 in
theorem Kfo(d:List Int)(hd:d.length<=12):J3n d=some (Jlz d):=by
 obtain⟨k,hk⟩:=len_ok d.length hd
 have main:J2 0 (d.length:Int) d=some (Jlz d):=by
  unfold J2
  rw[show w64 ((0:Int)+1)=((1:Nat):Int)from rfl]
  by_cases c:d.length=0
  ·have:d=[]:=List.eq_nil_of_length_eq_zero c
   subst this
   unfold J2_2
   rw[J9d (r:=[]) rfl];rfl
  ·obtain⟨r,e,p1,p2⟩:=Jzq d.length (by omega) (d.length - 1) 1 d rfl (by omega) (Nat.le_refl 1) (by
    match d,c with
    |x::l,_=>exact List.pairwise_singleton _ _)
   rw[e,J8f,Jiz p2 (Jeb d) (p1.trans (Jfh d).symm)]
 unfold J3n J02 J02_1
 rw[hk,J8f,J9d (r:=Jlz d) (by
  unfold J02_1_step
  rw[oW,oT,main,J8f])]
 rfl
theorem Jvh(f:(List (Int×α))->Option (List Int))(l:List (Int×α))(hl:l.length<=12)
  (hf:f l=K19 (∀ss:List Int,ss.Perm (l.map (·.1))->J3n ss=some (Jlz (l.map (·.1)))) (need (List.length l<=1000) (some (Jlz (l.map (·.1)))))):f l=some (Jlz (l.map (·.1))):=by
 rw[hf,K1b (λss hs=>by rw[Kfo ss (by rw[hs.length_eq,List.length_map];exact hl),Kfp hs]),oN]
def l3:List Pr:=[([97],[],()),([99],[],()),([101],[],())]
theorem K1h(a b:List Pr)(hl:a.length=b.length)(r r0:ρ)(hr:r≠r0):scan (λi=>if a.getD i zPr=b.getD i zPr then none else some r) r0 0 a.length=if a=b then r0 else r:=by
 by_cases e:a=b
 ·subst e
  rw[if_pos rfl]
  exact Jff _ _ (λj _ _=>if_pos rfl)
 ·rw[if_neg e]
  have:∃j,j<a.length/\a.getD j zPr≠b.getD j zPr:=by
   apply Classical.byContradiction
   intro hn
   apply e
   apply List.ext_getElem hl
   simp_all
  obtain⟨j,hj⟩:=Nat.find_of this
  refine Je6 a.length 0 j (Nat.zero_le _) (by omega) (λj' _ h=>if_pos ?_) (if_neg hj.1.2)
  grind
theorem Jsc x0 x1 (x2:Int) (x3:Int):J03_1_step x0 x1 x2 x3=
  (J8g (decide (x3<x2)) (need (0<=x3/\x3<(List.length x0:Int)) (need (0<=x3/\x3<(List.length x1:Int)) (J8g (!(Ty.beq (.fld .str (.fld .str .unit)) (List.getD x0 (Int.toNat x3) zPr) (List.getD x1 (Int.toNat x3) zPr))) (some (.inr (.inl false))) (some (.inl (w64 (x3+(1:Int)))))))) (some (.inr (.inr ()))):Option ((Int)⊕((Bool)⊕(Unit)))):=rfl
theorem Jux(a b:List Pr)(ha:a.length<=1073741824):J03 a b=some (decide (a=b)):=by
 by_cases hl:a.length=b.length
 ·have h:J03_1 a b (a.length:Int) 0=some (scan (λi=>if a.getD i zPr=b.getD i zPr then none else some (.inl false)) (.inr ()) 0 a.length):=by
   refine Jca (step:=λ(s:Int)=>J03_1_step a b (a.length:Int) s) (λi=>(i:Int)) _ _ a.length (λi hi h=> ?_) (λi r hi h=> ?_) ?_ a.length 0 (by omega)
   ·rw[Jsc,oT,oN,oN,Int.toNat_natCast,pbeq,oW]
    by_cases e:a.getD i zPr=b.getD i zPr
    ·rw[Jcq e];rfl
    ·rw[if_neg e]at h;cases h
   ·rw[Jsc,oT,oN,oN,Int.toNat_natCast,pbeq]
    by_cases e:a.getD i zPr=b.getD i zPr
    ·rw[if_pos e]at h;cases h
    ·rw[if_neg e]at h;injection h with h;subst h;rw[Jd9 e]
   ·rw[Jsc,oF]
  unfold J03
  rw[Jcq (by omega),h,J8f,K1h a b hl _ _ (by simp)]
  grind
 ·unfold J03
  rw[Jd9 (by omega),decide_eq_false (λe=>hl (by rw[e]))]
abbrev hq(a b:List UInt8):Bool:=Ty.beq (.arr 32 (.int .u8)) a b
theorem Kbf a b:hq a b=true↔a=b:=Ty.beq_iff (.arr 32 (.int .u8)) rfl a b
def okP(l:List Pr)(i:Nat):Bool:=Jx7 (l.getD i zPr)&&(i==0||J97 (l.getD (i - 1) zPr).1 (l.getD i zPr).1)
def Jcd(l:List Pr):Bool:=(List.range l.length).all (okP l)&&decide (l.length<=30)
theorem K4i x0 x1 (x2:Int) (x3:Int):J2b_1_step x0 x1 x2 x3=
  (J8g (decide (x3<x2)) (need (0<=x3/\x3<(List.length x1:Int)) (J8e (J7z (List.getD x1 (Int.toNat x3) zPr)) (λu4=>J8g (!u4) (some (.inr (.inl false))) (J8g (decide ((0:Int)<x3)) (need (0<=(w64 (x3 - (1:Int)))/\(w64 (x3 - (1:Int)))<(List.length x0:Int)) (J8g (!J97 (List.getD x0 (Int.toNat (w64 (x3 - (1:Int)))) zPr).1 (List.getD x1 (Int.toNat x3) zPr).1) (some (.inr (.inl false))) (some (.inl (w64 (x3+(1:Int))))))) (some (.inl (w64 (x3+(1:Int))))))))) (some (.inr (.inr x0))):Option ((Int)⊕((Bool)⊕(List Pr)))):=rfl
theorem Jh2(l:List Pr)(hl:l.length<=1073741824):J2b l=some (Jcd l):=by
 have main:J2b_1 l l (l.length:Int) 0=some (scan (λi=>if okP l i then none else some (.inl false)) (.inr l) 0 l.length):=by
  unfold J2b_1
  have step:∀i,i<l.length->J2b_1_step l l (l.length:Int) (i:Int)=if okP l i then some (.inl ((i+1:Nat):Int))else some (.inr (.inl false)):=by
   intro i hi
   rw[K4i]
   simp (disch:=omega)only[J8w,J9t,J8i,Int.toNat_natCast,K4q,J8f]
   unfold okP
   by_cases hm:Jx7 (l.getD i zPr)
   ·rw[hm]
    by_cases h0:i=0
    ·subst h0;rw[oF];rfl
    ·rw[oT,oN,show Int.toNat ((i:Int) - 1)=i - 1 from by omega]
     have:(i==0)=false:=by simp[h0]
     rw[this,Bool.false_or]
     by_cases hs:J97 (l.getD (i - 1) zPr).1 (l.getD i zPr).1
     ·rw[hs];rfl
     ·rw[Bool.not_eq_true]at hs;rw[hs];rfl
   ·rw[Bool.not_eq_true]at hm;rw[hm];rfl
  refine Jca (step:=λ(s:Int)=>J2b_1_step l l (l.length:Int) s) (λi=>(i:Int)) _ _ l.length (λi hi h=> ?_) (λi r hi h=> ?_) ?_ l.length 0 (by omega)
  ·by_cases hk:okP l i
   ·exact(step i hi).trans (if_pos hk)
   ·rw[if_neg hk]at h;cases h
  ·grind
  ·rw[K4i,oF]
 unfold J2b
 rw[main,J8f]
 unfold Jcd
 by_cases hall:(List.range l.length).all (okP l)
 ·rw[Jff _ _ (λj _ h=>if_pos (List.all_eq_true.1 hall j (by simp;omega))),hall,Bool.true_and]
  dsimp only
  congr 1
  exact decide_eq_decide.2 (by omega)
 ·rw[Bool.not_eq_true]at hall
  have:∃j,j<l.length/\okP l j=false:=by
   rw[List.all_eq_false]at hall
   obtain⟨j,hj,hk⟩:=hall
   exact⟨j,by simpa using hj,by simpa using hk⟩
  obtain⟨j,hj⟩:=Nat.find_of this
  have hsc:scan (λi=>if okP l i then none else some (.inl false)) (.inr l:Bool⊕List Pr) 0 l.length= .inl false:=by
   refine Je6 l.length 0 j (Nat.zero_le _) (by omega) (λj' _ h=>if_pos ?_) (if_neg ?_)
   ·have:=hj.2 j' h
    cases hk:okP l j' with
    |true=>rfl
    |false=>exact absurd ⟨by omega,hk⟩ this
   ·rw[hj.1.2];simp
  rw[hall,hsc]
  rfl
theorem Jct(l:List Pr):Jcd l=true↔Jb6 l/\(∀p∈l,Jx7 p=true)/\l.length<=30:=by
 unfold Jcd
 rw[Bool.and_eq_true,decide_eq_true_eq]
 constructor
 ·rintro⟨h1,h2⟩
  have key0:∀i,i<l.length->okP l i=true:=λi hi=>List.all_eq_true.1 h1 i (List.mem_range.2 hi)
  have hinc:incN (l.map λp:Pr=>p.1)=true:=by
   refine List.all_eq_true.2 λi hi=> ?_
   have hi:=List.mem_range.1 hi
   rw[List.length_map]at hi
   have:=key0 (i+1) (by omega)
   unfold okP at this
   grind
  refine⟨List.pairwise_map.1 (Jue _ hinc),λp hp=> ?_,h2⟩
  ·obtain⟨i,hi,rfl⟩:=List.getElem_of_mem hp
   have:=key0 i hi
   unfold okP at this
   grind
 ·rintro⟨h1,h2,h3⟩
  refine⟨List.all_eq_true.2 λi hi=> ?_,h3⟩
  have hi:=List.mem_range.1 hi
  unfold okP
  rw[Bool.and_eq_true,Bool.or_eq_true,beq_iff_eq]
  refine⟨h2 _ (Jae hi), ?_⟩
  by_cases c:i=0
  ·exact .inl c
  ·exact .inr (Jjl h1 (by omega) hi)
theorem Kbp(h:Jx7 p=true):1<=p.1.length/\p.1.length<=16/\p.2.1.length<=24:=by
 unfold Jx7 at h
 grind
theorem Jk2(h:Jcd l=true):Jy9 l/\Jb6 l:=by
 obtain⟨h1,h2,h3⟩:=(Jct l).1 h
 exact⟨⟨by omega,λp hp=>by have:=Kbp (h2 p hp);omega⟩,h1⟩
noncomputable def Jmg(p:Prf)(i:Nat):List UInt8×Bool:=upS (Jh3 (p.2.2.1.getD i zPr)) (p.2.1+(i:Int)) p.1 (p.2.2.2.1.getD i [])
noncomputable def Jey(root:List UInt8)(p:Prf)(i:Nat):Bool:=(Jmg p i).2&&hq (Jpn p.1.toNat (Jmg p i).1) root
noncomputable def Je9(root:List UInt8)(p:Prf):Bool:=
 decide (0<=p.1/\p.1<=30/\p.2.2.2.1.length=p.2.2.1.length)&&(Jcd p.2.2.1&&(decide (0<=p.2.1/\p.2.1<=p.1 - (p.2.2.1.length:Int))&&(if p.1=0 then hq root (Jcu [])else(decide (0<p.2.2.1.length)&&(List.range p.2.2.1.length).all (Jey root p)))))
def Jm0(p:Prf):Prop:=(∀x∈p.2.2.2.1,x.length<=1000/\∀h∈x,h.length=32)/\p.2.2.1.length<=1000000/\p.2.2.2.1.length<=1000000
theorem upS_32 leaf i n p:(upS leaf i n p).1.length=32:=by
 unfold upS
 split
 ·exact Jra _ _ _ (Ja8 _)
 ·simp
theorem K3h(n:Nat)(r:List UInt8)(hr:r.length=32):J6v (n:Int) r=some (Jpn n r):=by
 have hp:Jdf [(n:Int)]=Jev n:=by simp[Jdf]
 have h1:=J9o (n:Int)
 have hf:[Jev (n:Int),r].flatten=Jev (n:Int)++r:=by simp
 unfold J6v
 rw[put_eq _ (by simp),J8f,hp,Jb5 _ _ (by rw[hf,List.length_append];omega) (by simp),hf]
 rfl
theorem K3a x0 (x1:Int) (x2:Int) x3 (x4:Prf):J1x_1_step x0 x1 x2 x3 x4=
  (J8g (decide (x2<x1)) (need (0<=x2/\x2<(List.length x0:Int)) (J8e (J6y (List.getD x0 (Int.toNat x2) zPr)) (λu16=>need (0<=x2/\x2<(List.length x4.2.2.2.1:Int)) (J8e (J4p u16 (w64 (x4.2.1+x2)) x4.1 (List.getD x4.2.2.2.1 (Int.toNat x2) ([]:List (List UInt8)))) (λu19=>J8g (!u19.2) (some (.inr (.inl ()))) (J8e (J6v x4.1 u19.1) (λu22=>J8g (!(Ty.beq (.arr 32 (.int .u8)) u22 x3)) (some (.inr (.inl ()))) (some (.inl (w64 (x2+(1:Int)))))))))))) (some (.inr (.inr ()))):Option ((Int)⊕((Unit)⊕(Unit)))):=rfl
theorem Kad(f:Nat->Bool)(r r0:ρ)(n:Nat):scan (λi=>if f i then none else some r) r0 0 n=if(List.range n).all f then r0 else r:=by
 by_cases h:(List.range n).all f=true
 ·rw[if_pos h]
  exact Jff _ _ λj _ hj=>if_pos (List.all_eq_true.1 h j (List.mem_range.2 (by omega)))
 ·rw[if_neg h]
  rw[Bool.not_eq_true,List.all_eq_false]at h
  obtain⟨j,hj,hf⟩:=h
  obtain⟨k,hk⟩:=Nat.find_of (p:=λj=>j<n/\¬f j=true) ⟨j,List.mem_range.1 hj,hf⟩
  refine Je6 n 0 k (Nat.zero_le _) (by omega) (λj' _ h=>if_pos ?_) (if_neg hk.1.2)
  grind
theorem Kei(h:Jm0 p)(i:Nat):(∀x∈p.2.2.2.1.getD i [],x.length=32)/\(p.2.2.2.1.getD i []).length<=100000:=by
 by_cases c:i<p.2.2.2.1.length
 ·have:=h.1 _ (Jae (z:=[]) c)
  exact⟨this.2,by omega⟩
 ·grind
theorem Jjb root (p:Prf) (h:Jm0 p):J1x root p=some (Je9 root p):=by
 have hn:=h.2.1
 unfold J1x Je9
 by_cases c1:p.1<0
 ·rw[J8w c1,decide_eq_false (λq=>absurd q.1 (by omega))];rfl
 rw[J90 c1]
 by_cases c2:30<p.1
 ·rw[J8w c2,decide_eq_false (λq=>absurd q.2.1 (by omega))];rfl
 rw[J90 c2]
 by_cases c3:p.2.2.2.1.length=p.2.2.1.length
 case neg=>rw[Jd9 (by omega),decide_eq_false (λq=>c3 q.2.2)];rfl
 rw[Jcq (by omega),Jh2 _ (by omega),J8f,decide_eq_true (p:=0<=p.1/\p.1<=30/\p.2.2.2.1.length=p.2.2.1.length) ⟨by omega,by omega,c3⟩,Bool.true_and]
 cases c4:Jcd p.2.2.1 with
 |false=>rfl
 | true=>
  obtain⟨hk,hr⟩:=Jk2 c4
  have hl:=hk.1
  rw[Bool.not_true,J8y,Bool.true_and]
  by_cases c5:p.2.1<0
  ·rw[J8w c5,decide_eq_false (λq=>absurd q.1 (by omega))];rfl
  rw[J90 c5,oW]
  by_cases c6:p.1 - (p.2.2.1.length:Int)<p.2.1
  ·rw[J8w c6,decide_eq_false (λq=>absurd q.2 (by omega))];rfl
  rw[J90 c6,decide_eq_true (p:=0<=p.2.1/\p.2.1<=p.1 - (p.2.2.1.length:Int)) ⟨by omega,by omega⟩,Bool.true_and]
  by_cases c7:p.1=0
  ·rw[J8w c7,if_pos c7,Jkd [] ⟨by simp,by simp⟩,J8f]
  rw[J90 c7,if_neg c7]
  by_cases c8:p.2.2.1.length=0
  ·rw[oT,decide_eq_false (by omega)];rfl
  rw[oF,decide_eq_true (p:=0<p.2.2.1.length) (by omega),Bool.true_and]
  have m:J1x_1 p.2.2.1 (p.2.2.1.length:Int) 0 root p=some (scan (λi=>if Jey root p i then none else some (.inl ())) (.inr ()) 0 p.2.2.1.length):=by
   unfold J1x_1
   have step:∀i,i<p.2.2.1.length->J1x_1_step p.2.2.1 (p.2.2.1.length:Int) (i:Int) root p=if Jey root p i then some (.inl ((i+1:Nat):Int))else some (.inr (.inl ())):=by
    intro i hi
    obtain⟨po1,po2⟩:=Kei h i
    have hlf:=hk.2 _ (Jae (z:=zPr) hi)
    have hlb:=Jjn hlf
    have hnum:p.1=((p.1.toNat:Nat):Int):=by omega
    have hw:J6v p.1 (upS (Jh3 (p.2.2.1.getD i zPr)) (p.2.1+(i:Int)) p.1 (p.2.2.2.1.getD i [])).1=some (Jpn p.1.toNat (upS (Jh3 (p.2.2.1.getD i zPr)) (p.2.1+(i:Int)) p.1 (p.2.2.2.1.getD i [])).1):=by
     have:=K3h p.1.toNat _ (upS_32 (Jh3 (p.2.2.1.getD i zPr)) (p.2.1+(i:Int)) p.1 (p.2.2.2.1.getD i []))
     rw[<-hnum]at this;exact this
    rw[K3a,oT,oN,Int.toNat_natCast,Jx3 _ hlf,J8f,oN,oX (p.2.1+(i:Int)),up_eq _ (by omega) _ _ (by omega) _ po1 po2,J8f,hw,J8f,oW]
    unfold Jey Jmg
    cases (upS (Jh3 (p.2.2.1.getD i zPr)) (p.2.1+(i:Int)) p.1 (p.2.2.2.1.getD i [])).2 with
    |false=>rfl
    |true=>
     rw[Bool.not_true,J8y,Bool.true_and]
     unfold hq
     cases Ty.beq (.arr 32 (.int .u8)) (Jpn p.1.toNat (upS (Jh3 (p.2.2.1.getD i zPr)) (p.2.1+(i:Int)) p.1 (p.2.2.2.1.getD i [])).1) root<;>rfl
   refine Jca (step:=λ(s:Int)=>J1x_1_step p.2.2.1 (p.2.2.1.length:Int) s root p) (λi=>(i:Int)) _ _ p.2.2.1.length (λi hi h=> ?_) (λi r hi h=> ?_) ?_ p.2.2.1.length 0 (by omega)
   ·by_cases hk:Jey root p i
    ·exact(step i hi).trans (if_pos hk)
    ·rw[if_neg hk]at h;cases h
   ·by_cases hk:Jey root p i
    ·rw[if_pos hk]at h;cases h
    ·rw[if_neg hk]at h;injection h with h;subst h
     exact(step i hi).trans (if_neg hk)
   ·rw[K3a,oF]
  rw[m,J8f,Kad]
  cases (List.range p.2.2.1.length).all (Jey root p)<;>rfl
theorem Kt(h:Je9 root p=true):Jy9 p.2.2.1/\Jb6 p.2.2.1:=by
 unfold Je9 at h
 rw[Bool.and_eq_true,Bool.and_eq_true]at h
 exact Jk2 h.2.1
theorem K6j(h:Je9 root p=true):0<=p.1/\p.1<=30/\0<=p.2.1/\p.2.1<=p.1 - (p.2.2.1.length:Int)/\(p.2.2.1.length=0↔p.1=0):=by
 unfold Je9 at h
 grind
def inR(a b:List UInt8)(p:Pr):Bool:= !J97 p.1 a&&J97 p.1 b
def Jcp(l:List Pr)(a b:List UInt8):List Pr:=l.filter (inR a b)
theorem K9h{a b:Nat}:q∈Ja1 l (a:Int) (b:Int)↔∃i,a<=i/\i<b/\i<l.length/\l.getD i zPr=q:=by
 unfold Ja1
 constructor
 ·intro h
  obtain⟨i,h1,h2,h3⟩:=Jlr h
  grind
 ·rintro⟨i,h1,h2,h3,rfl⟩
  have hm:((l.take b).drop a).getD (i - a) zPr=l.getD i zPr:=by
   grind
  grind
theorem Jky(l:List Pr)(hr:Jb6 l)(hl:l.length<=1000) a b:J6b l a b=some (Jcp l a b):=by
 have h1:=below_le l a
 have h2:=below_le l b
 have e:Ja1 l ((J8o l a:Nat):Int) ((max (J8o l a) (J8o l b):Nat):Int)=Jcp l a b:=by
  refine Jns ?_ (hr.sublist List.filter_sublist) λq=> ?_
  ·unfold Ja1
   exact(hr.sublist (List.take_sublist _ _)).sublist (List.drop_sublist _ _)
  ·rw[K9h]
   unfold Jcp inR
   rw[List.mem_filter,Bool.and_eq_true,Bool.not_eq_true']
   constructor
   ·rintro⟨i,g1,g2,g3,rfl⟩
    refine⟨Jae g3, ?_,(Jbp hr b g3).2 (by omega)⟩
    cases c:J97 (l.getD i zPr).1 a with
    |false=>rfl
    |true=>have:=(Jbp hr a g3).1 c;omega
   ·rintro⟨g1,g2,g3⟩
    obtain⟨i,hi,rfl⟩:=List.getElem_of_mem g1
    have hg:l.getD i zPr=l[i]:=by rw[List.getD_eq_getElem?_getD,List.getElem?_eq_getElem hi];rfl
    rw[<-hg]at g2 g3
    have:=(Jbp hr b hi).1 g3
    refine⟨i, ?_,by omega,hi,hg⟩
    apply Classical.byContradiction
    intro c
    rw[(Jbp hr a hi).2 (by omega)]at g2;cases g2
 unfold J6b
 rw[Jh1 l hr hl,J8f,Jh1 l hr hl,J8f,show max (J8o l a:Int) (J8o l b:Int)=((max (J8o l a) (J8o l b):Nat):Int)from by omega,oN,e]
 unfold Ji
 have hle:(Jcp l a b).length<=l.length:=List.length_filter_le _ _
 rw[oN,J8f]
def Jr5(p:Prf)(a:List UInt8):Bool:=decide (p.2.1=0)||J97 (p.2.2.1.getD 0 zPr).1 a
def K8g(p:Prf)(m:List UInt8):Bool:=decide (p.2.1+(p.2.2.1.length:Int)=p.1)|| !J97 (p.2.2.1.getD (p.2.2.1.length - 1) zPr).1 m
noncomputable def Je4(root a b:List UInt8)(p:Prf):List Pr×Bool:=
 if Je9 root p then(if p.2.2.1.length=0 then([],true)else if Jr5 p a&&K8g p (maxS a b)then(Jcp p.2.2.1 a b,true)else([],false))else([],false)
theorem Jja root a b p (h:Jm0 p):J6u root a b p=some (Je4 root a b p):=by
 unfold J6u Je4
 rw[Jjb root p h,J8f]
 cases hs:Je9 root p with
 |false=>rfl
 | true=>
  obtain⟨hk,hr⟩:=Kt hs
  have hl:=hk.1
  obtain⟨n1,n2,n3,n4,n5⟩:=K6j hs
  rw[Bool.not_true,J8y,if_pos rfl,Jky _ hr (by omega),J8f]
  by_cases c:p.2.2.1.length=0
  ·rw[oT,if_pos c]
  rw[oF,if_neg c,oX (p.2.1+_),oW,oN,oN,show Int.toNat ((p.2.2.1.length:Int) - 1)=p.2.2.1.length - 1 from by omega,show Int.toNat (0:Int)=0 from rfl]
  unfold Jr5 K8g
  by_cases c1:p.2.1=0
  ·rw[J8w c1,decide_eq_true c1,Bool.true_or,Bool.true_and]
   by_cases c2:p.2.1+(p.2.2.1.length:Int)=p.1
   ·rw[J8w c2,decide_eq_true c2];rfl
   ·rw[J90 c2,decide_eq_false c2,Bool.false_or]
    show J8g (!(!J97 (p.2.2.1.getD (p.2.2.1.length - 1) zPr).1 (maxS a b))) _ _=_
    cases J97 (p.2.2.1.getD (p.2.2.1.length - 1) zPr).1 (maxS a b)<;>rfl
  ·rw[J90 c1,decide_eq_false c1,Bool.false_or]
   by_cases c2:p.2.1+(p.2.2.1.length:Int)=p.1
   ·rw[J8w c2,decide_eq_true c2,Bool.true_or,Bool.and_true]
    show J8g (!J97 (p.2.2.1.getD 0 zPr).1 a) _ _=_
    cases J97 (p.2.2.1.getD 0 zPr).1 a<;>rfl
   ·rw[J90 c2,decide_eq_false c2,Bool.false_or,oN]
    show J8g (!J97 (p.2.2.1.getD 0 zPr).1 a) _ (J8g (!(!J97 (p.2.2.1.getD (p.2.2.1.length - 1) zPr).1 (maxS a b))) _ _)=_
    cases J97 (p.2.2.1.getD 0 zPr).1 a<;>cases J97 (p.2.2.1.getD (p.2.2.1.length - 1) zPr).1 (maxS a b)<;>rfl
theorem Jv0(h:(Je4 root a b p).2=true):Je9 root p=true:=by
 unfold Je4 at h
 grind
noncomputable def absS(root k:List UInt8)(p:Prf):Bool:=(Je4 root k k p).2&& !Ji5 p.2.2.1 k
theorem Jpf root k p (h:Jm0 p):J78 root k p=some (absS root k p):=by
 unfold J78 absS
 rw[Jja root k k p h,J8f]
 cases hs:(Je4 root k k p).2 with
 |false=>rfl
 |true=>
  obtain⟨hk,hr⟩:=Kt (Jv0 hs)
  have hl:=hk.1
  rw[Bool.not_true,Jfx _ hr (by omega)]
  cases Ji5 p.2.2.1 k<;>rfl
noncomputable def Jpz(root:List UInt8)(x:Pr)(p:Prf):Bool:=Je9 root p&&decide (p.2.2.1=[x])
theorem Jr9 root x p (h:Jm0 p):J73 root x p=some (Jpz root x p):=by
 have:=h.2.1
 unfold J73 Jpz
 rw[Jjb root p h,J8f]
 cases Je9 root p with
 |false=>rfl
 |true=>rw[Jbz,Jux _ _ (by omega),J8f,Bool.true_and]
theorem Jmn l (h:Jy9 l) F T (hT:T<=1000):Jm0 (Jbb l F T):=by
 have hl:=h.1
 unfold Jbb
 by_cases c:T<=F
 ·rw[if_pos c];exact⟨by simp,by simp,by simp⟩
 ·rw[if_neg c]
  obtain⟨a,b⟩:=Jzs l hl F (T - F)
  refine⟨λx hx=>⟨by have:=b x hx;omega, ?_⟩,by show((l.drop F).take (T - F)).length<=_;rw[List.length_take];omega,by show(Jde l F (T - F)).length<=_;omega⟩
  obtain⟨j,_,rfl⟩:=List.mem_map.1 hx
  unfold Jdm
  split
  ·exact Jjw _ _ _
  ·simp
theorem Kg0(l:List Pr)(hl:l.length<=60)(i:Nat)(hi:i<l.length):upS (Jh3 (l.getD i zPr)) (i:Int) (l.length:Int) (Jdm (J9c l) (i:Int))=(Jc1 (J9c l),true):=by
 have hg:(J9c l).getD i []=Jh3 (l.getD i zPr):=by
  unfold J9c
  grind
 have hp:=Jsb l.length (J9c l) i (by rw[J9n];omega) (by rw[J9n];omega) (by rw[J9n];omega)
 have hs:=Jdr l.length (J9c l) i (by rw[J9n];omega)
 rw[J9n,hg]at hp
 rw[J9n]at hs
 have e:Jdm (J9c l) (i:Int)=Jbh l.length (J9c l) i:=by
  unfold Jdm
  rw[J9n,oI,Int.toNat_natCast]
 unfold upS
 rw[e,if_pos ⟨(Jit _ _).2 (by omega),by rw[Int.toNat_natCast];exact hs⟩,Int.toNat_natCast,Int.toNat_natCast,hp]
theorem K64(h:K7o l):Jcd l=true:=by
 rw[Jct]
 refine⟨h.1,λp hp=> ?_,by have:=h.2.1;omega⟩
 have:=Kbm _ (h.2.2.1 p hp)
 have h3:=h.2.2.2 p hp
 unfold Jx7
 grind
theorem Jor(h:Jcd l=true)(hs:m.Sublist l):Jcd m=true:=by
 obtain⟨h1,h2,h3⟩:=(Jct l).1 h
 exact(Jct m).2 ⟨h1.sublist hs,λp hp=>h2 p (hs.subset hp),Nat.le_trans hs.length_le h3⟩
theorem Je8(l:List Pr){F T:Nat}(h:F<T):Jbb l F T=((l.length:Int),(F:Int),(l.drop F).take (T - F),Jde l F (T - F),()):=by unfold Jbb;rw[oJ]
theorem K1t root (l:List Pr) (h:Jcd l=true) (F T:Nat) (hT:T<=l.length):Je9 root (Jbb l F T)=if l.length=0 then hq root (Jcu [])else decide (F<T)&&hq (Jcu l) root:=by
 obtain⟨hk,hr⟩:=Jk2 h
 have h30:=((Jct l).1 h).2.2
 by_cases c:F<T
 ·have e1:((l.drop F).take (T - F)).length=T - F:=by rw[List.length_take,List.length_drop];omega
  obtain⟨e2,e3⟩:=Jzs l hk.1 F (T - F)
  have hat:∀i,i<T - F->Jey root (Jbb l F T) i=hq (Jcu l) root:=λi hi=>by
   have g1:((l.drop F).take (T - F)).getD i zPr=l.getD (F+i) zPr:=by
    grind
   have g2:(Jde l F (T - F)).getD i []=Jdm (J9c l) ((F+i:Nat):Int):=by
    unfold Jde
    rw[List.getD_eq_getElem?_getD,List.getElem?_map,List.getElem?_range hi];rfl
   have hu:=Kg0 l hk.1 (F+i) (by omega)
   unfold Jey Jmg
   rw[Je8 l c]
   dsimp only
   rw[g1,g2,show(F:Int)+(i:Int)=((F+i:Nat):Int)from by omega,hu,Int.toNat_natCast]
   rfl
  rw[oJ,decide_eq_true c,Bool.true_and]
  have hall:(List.range (T - F)).all (Jey root (Jbb l F T))=hq (Jcu l) root:=by
   cases hv:hq (Jcu l) root with
   |true=>exact List.all_eq_true.2 λi hi=>by rw[hat i (List.mem_range.1 hi),hv]
   |false=>exact List.all_eq_false.2 ⟨0,List.mem_range.2 (by omega),by rw[hat 0 (by omega),hv];simp⟩
  unfold Je9
  rw[Je8 l c]at hall⊢
  dsimp only at hall⊢
  rw[e1,e2,hall,Jor h ((List.take_sublist _ _).trans (List.drop_sublist _ _)),decide_eq_true (p:=0<=(l.length:Int)/\(l.length:Int)<=30/\T - F=T - F) ⟨by omega,by omega,rfl⟩,decide_eq_true (p:=0<=(F:Int)/\(F:Int)<=(l.length:Int) - ((T - F:Nat):Int)) ⟨by omega,by omega⟩,oJ,decide_eq_true (p:=0<T - F) (by omega)]
  rfl
 ·have es:Jbb l F T=((l.length:Int),0,[],[],()):=by unfold Jbb;rw[oI]
  have hn:Jcd ([]:List Pr)=true:=rfl
  rw[decide_eq_false c,Bool.false_and]
  unfold Je9
  grind
theorem Jqo(l:List Pr)(h:Jcd l=true) F T (hT:T<=l.length):Je9 (Jcu l) (Jbb l F T)=(decide (l.length=0)||decide (F<T)):=by
 rw[K1t _ l h F T hT]
 by_cases c:l.length=0
 ·have:l=[]:=List.length_eq_zero_iff.1 c
  subst this
  exact(Kbf _ _).2 rfl
 ·rw[if_neg c,decide_eq_false c,Bool.false_or,(Kbf (Jcu l) (Jcu l)).2 rfl,Bool.and_true]
theorem Jhx(l:List Pr)(hr:Jb6 l) a b F T (hFT:F<T) (hT:T<=l.length) (h1:F=0\/F<J8o l a) (h2:T=l.length\/J8o l (maxS a b)<T):Jcp ((l.drop F).take (T - F)) a b=Jcp l a b:=by
 have hm:J97 b a=true\/J8o l b<=J8o l (maxS a b):=by
  unfold maxS
  cases c:J97 a b with
  |true=>exact .inr (Nat.le_refl _)
  |false=>
   rcases Jk9 a b c with e|e
   ·grind
   ·exact .inl e
 refine Jns (((hr.sublist (List.drop_sublist _ _)).sublist (List.take_sublist _ _)).sublist List.filter_sublist) (hr.sublist List.filter_sublist) λq=> ?_
 unfold Jcp
 rw[List.mem_filter,List.mem_filter]
 refine⟨λh=>⟨List.mem_of_mem_drop (List.mem_of_mem_take h.1),h.2⟩,λh=>⟨?_,h.2⟩⟩
 obtain⟨g1,g2⟩:=h
 unfold inR at g2
 rw[Bool.and_eq_true,Bool.not_eq_true']at g2
 obtain⟨i,hi,rfl⟩:=List.getElem_of_mem g1
 have hg:l.getD i zPr=l[i]:=by rw[List.getD_eq_getElem?_getD,List.getElem?_eq_getElem hi];rfl
 rw[<-hg]at g2⊢
 have q1:=(Jbp hr b hi).1 g2.2
 have q2:J8o l a<=i:=by
  apply Classical.byContradiction
  intro c
  rw[(Jbp hr a hi).2 (by omega)]at g2;cases g2.1
 have q3:i<T:=by
  rcases hm with e|e
  ·have:=Jb1 _ _ _ g2.2 e
   rw[g2.1]at this;cases this
  ·omega
 have hm2:((l.drop F).take (T - F)).getD (i - F) zPr=l.getD i zPr:=by
  grind
 rw[<-hm2]
 exact Jae (by rw[List.length_take,List.length_drop];omega)
theorem K8h(l:List Pr)(hFT:F<T)(hT:T<=l.length):((l.drop F).take (T - F)).length=T - F/\((l.drop F).take (T - F)).getD 0 zPr=l.getD F zPr/\((l.drop F).take (T - F)).getD (T - F - 1) zPr=l.getD (T - 1) zPr:=by
 grind
theorem Jxk(l:List Pr)(h:Jcd l=true) a b F T (hT:T<=l.length):
  Je4 (Jcu l) a b (Jbb l F T)=if l.length=0\/(F<T/\(F=0\/F<J8o l a)/\(T=l.length\/J8o l (maxS a b)<T))then(Jcp l a b,true)else([],false):=by
 obtain⟨hk,hr⟩:=Jk2 h
 unfold Je4
 rw[Jqo l h F T hT]
 by_cases c0:l.length=0
 ·have e0:l=[]:=List.length_eq_zero_iff.1 c0
  have es:Jbb l F T=((l.length:Int),0,[],[],()):=by unfold Jbb;rw[oI]
  rw[decide_eq_true c0,Bool.true_or,if_pos rfl,es,if_pos (by rfl),if_pos (.inl c0),e0];rfl
 rw[decide_eq_false c0,Bool.false_or]
 by_cases c:F<T
 ·obtain⟨e1,e2,e3⟩:=K8h l c hT
  rw[decide_eq_true c,if_pos rfl]
  have hb:Jr5 (Jbb l F T) a=decide (F=0\/F<J8o l a):=by
   unfold Jr5
   rw[Je8 l c]
   dsimp only
   rw[e2,Bool.eq_iff_iff,Bool.or_eq_true,decide_eq_true_eq,decide_eq_true_eq,Jbp hr a (by omega)]
   omega
  have he:K8g (Jbb l F T) (maxS a b)=decide (T=l.length\/J8o l (maxS a b)<T):=by
   unfold K8g
   rw[Je8 l c]
   dsimp only
   rw[e1,e3,Bool.eq_iff_iff,Bool.or_eq_true,decide_eq_true_eq,decide_eq_true_eq,Bool.not_eq_true',<-Bool.not_eq_true,Jbp hr _ (by omega)]
   omega
  rw[hb,he,Je8 l c]
  dsimp only
  rw[e1,oJ]
  by_cases q:(F=0\/F<J8o l a)/\(T=l.length\/J8o l (maxS a b)<T)
  ·have hP:l.length=0\/(F<T/\(F=0\/F<J8o l a)/\(T=l.length\/J8o l (maxS a b)<T)):=.inr ⟨c,q⟩
   rw[decide_eq_true q.1,decide_eq_true q.2,Bool.true_and,if_pos rfl,if_pos hP,Jhx l hr a b F T c hT q.1 q.2]
  ·grind
 ·grind
theorem Jlo(l:List Pr)(hrt:Jcd l=true) a b:Je4 (Jcu l) a b (Jbb l (J8o l a - 1) (min (J8o l (maxS a b)+1) l.length))=(Jcp l a b,true):=by
 have h1:=below_le l a
 have h3:J97 (maxS a b) a=false:=by
  unfold maxS
  cases c:J97 a b with
  |true=>
   show J97 b a=false
   cases q:J97 b a with
   |false=>rfl
   |true=>have:=Jb1 _ _ _ c q;rw[Je7]at this;cases this
  |false=>exact Je7 a
 have h4:=K0h l (maxS a b) a h3
 rw[Jxk l hrt _ _ _ _ (by omega),if_pos]
 by_cases c:l.length=0
 ·exact .inl c
 ·exact .inr ⟨by omega,by omega,by omega⟩
theorem K6i(l:List Pr){k:Nat}(hk:k<l.length):Jbb l k (k+1)=((l.length:Int),(k:Int),[l.getD k zPr],[Jdm (J9c l) (k:Int)],()):=by
 unfold Jbb
 rw[oJ,show k+1 - k=0+1 from by omega,Jia l (by omega)]
 rfl
abbrev Rsp:=Int×Int×List Pr×Prf×Unit
abbrev Qry:=Int×List UInt8×List UInt8×Int×Int×Unit
def Kct(r:Rsp):Bool:=decide (1<=r.2.1)&&(decide (r.2.1<=16)&&Jcd r.2.2.1)
theorem Jij(r:Rsp)(h:r.2.2.1.length<=1073741824):J6k r=some (Kct r):=by
 unfold J6k Kct
 rw[Jh2 _ h]
 cases decide (1<=r.2.1)<;>cases decide (r.2.1<=16)<;>rfl
noncomputable def admS(q:Qry)(root:List UInt8)(r:Rsp):Int:=
 if Kct r then
  if q.1=2 then(if(Je4 root q.2.1 q.2.2.1 r.2.2.2.1).2&&decide ((Je4 root q.2.1 q.2.2.1 r.2.2.2.1).1=r.2.2.1)then 0 else 2)
  else if r.2.2.1.length=0 then(if absS root q.2.1 r.2.2.2.1 then 0 else 2)
  else if r.2.2.1.length=1 then(if decide ((r.2.2.1.getD 0 zPr).1=q.2.1)&&Jpz root (r.2.2.1.getD 0 zPr) r.2.2.2.1 then 0 else 2)
  else 2
 else 1
theorem K1j(h:Jm0 p):(Je4 root a b p).1.length<=1000000:=by
 have:=h.2.1
 unfold Je4
 split
 ·split
  ·simp
  ·split
   ·exact Nat.le_trans (List.length_filter_le _ _) this
   ·simp
 ·simp
theorem Jmu q root (r:Rsp) (h:Jm0 r.2.2.2.1) (hl:r.2.2.1.length<=1073741824):J72 q root r=some (admS q root r):=by
 unfold J72 admS
 rw[Jij r hl,J8f]
 cases Kct r with
 |false=>rfl
 | true=>
  rw[Bool.not_true,J8y,if_pos rfl]
  by_cases c:q.1=2
  ·have hrl:=K1j (root:=root) (a:=q.2.1) (b:=q.2.2.1) h
   rw[J8w c,if_pos c,Jja _ _ _ _ h,J8f]
   cases (Je4 root q.2.1 q.2.2.1 r.2.2.2.1).2 with
   |false=>rfl
   |true=>
    rw[Jux _ _ (by omega)]
    cases decide ((Je4 root q.2.1 q.2.2.1 r.2.2.2.1).1=r.2.2.1)<;>rfl
  ·rw [J90 c,if_neg c]
   by_cases c0:r.2.2.1.length=0
   ·rw[oT,if_pos c0,Jpf _ _ _ h]
    cases absS root q.2.1 r.2.2.2.1<;>rfl
   ·rw[oF,if_neg c0]
    by_cases c1:r.2.2.1.length=1
    ·rw[oT,if_pos c1,oN]
     show J8g (decide ((r.2.2.1.getD 0 zPr).1=q.2.1)) (J8e (J73 root (r.2.2.1.getD 0 zPr) r.2.2.2.1) _) _=_
     rw[Jr9 _ _ _ h]
     cases decide ((r.2.2.1.getD 0 zPr).1=q.2.1)with
     |false=>rfl
     |true=>
      cases Jpz root (r.2.2.1.getD 0 zPr) r.2.2.2.1<;>rfl
    ·rw[oF,if_neg c1]
def endQ(q:Qry):List UInt8:=if q.1=1 then q.2.1 else q.2.2.1
noncomputable def Jm7(id:Int)(q:Qry)(h:Int)(l:List Pr):Rsp:=
 if q.1=1/\Ji5 l q.2.1=true then(id,h,[l.getD (J8o l q.2.1) zPr],Jbb l (J8o l q.2.1) (J8o l q.2.1+1),())
 else(id,h,Jcp l q.2.1 (endQ q),Jbb l (J8o l q.2.1 - 1) (min (J8o l (maxS q.2.1 (endQ q))+1) l.length),())
abbrev Ent:=Qry×Int×Int×Unit
abbrev ib:Int->Int->Bool:=Ty.beq (.int .i64)
theorem Jnj a b:ib a b=decide (a=b):=by
 rfl
def Jap(g:Nat->Ent):Nat->Nat->List (Int×Ent)
 |_,0=>[]
 |s,m+1=>((s:Int)+1,g s)::Jap g (s+1) m
def Jph:Nat->Nat->List Int
 |_,0=>[]
 |s,m+1=>((s:Int)+1)::Jph (s+1) m
def Kav(g:Nat->Ent)(j:Nat)(y:Ent):Nat->Ent:=λk=>if k=j then y else g k
theorem Jcs:∀(m s:Nat),(∀j,s<=j->j<s+m->g j=h j)->Jap g s m=Jap h s m
 |0,s,_=>rfl
 |m+1,s,e=>by
  unfold Jap
  rw[e s (Nat.le_refl _) (by omega),Jcs m (s+1) λj h1 h2=>e j (by omega) (by omega)]
theorem K8 g:∀(m s:Nat),(Jap g s m).length=m
 |0,s=>rfl
 |m+1,s=>by unfold Jap;rw[List.length_cons,K8]
theorem Jv6 g:∀(m s:Nat),(Jap g s m).map (·.1)=Jph s m
 |0,s=>rfl
 |m+1,s=>by unfold Jap Jph;rw[List.map_cons,Jv6]
theorem Jl5 g (j:Nat):∀(m s:Nat),s<=j->j<s+m->J8q ib ((j:Int)+1) (Jap g s m)=some (g j)
 |0,s,h1,h2=>by omega
 |m+1,s,h1,h2=>by
  unfold Jap J8q
  rw[Jnj]
  by_cases c:s=j
  ·grind
  ·rw[decide_eq_false (by omega)];exact Jl5 g j m (s+1) (by omega) (by omega)
theorem Joo g (j:Nat) y:∀(m s:Nat),s<=j->j<s+m->J91 ib ((j:Int)+1) y (Jap g s m)=Jap (Kav g j y) s m
 |0,s,h1,h2=>by omega
 | m+1,s,h1,h2=>by
  unfold Jap J91
  rw[Jnj]
  by_cases c:s=j
  ·subst c
   rw[decide_eq_true rfl,cond_true]
   rw[show Kav g s y s=y from if_pos rfl]
   congr 1
   exact Jcs m (s+1) λj h1 h2=>(oJ).symm
  ·rw[decide_eq_false (by omega),cond_false,Joo g j y m (s+1) (by omega) (by omega),show Kav g j y s=g s from if_neg c]
theorem Jjj:∀(m s:Nat),(Jph s m).length=m
 |0,s=>rfl
 |m+1,s=>by unfold Jph;rw[List.length_cons,Jjj]
theorem Jz8:∀{m s:Nat} {x:Int},x∈Jph s m->(s:Int)+1<=x
 |0,s,x,h=>by cases h
 |m+1,s,x,h=>by
  rcases List.mem_cons.1 h with rfl|h
  ·omega
  ·have:=Jz8 h;omega
theorem Jnk:∀(m s:Nat),Jep (Jph s m)
 |0,s=>List.Pairwise.nil
 |m+1,s=>by
  exact List.pairwise_cons.2 ⟨λx hx=>by have:=Jz8 hx;omega,Jnk m (s+1)⟩
theorem Js1:∀(m s i:Nat),i<m->(Jph s m).getD i 0=(s:Int)+i+1
 |0,s,i,h=>by omega
 |m+1,s,0,h=>by unfold Jph;rw[List.getD_cons_zero];omega
 |m+1,s,i+1,h=>by
  unfold Jph;rw[List.getD_cons_succ,Js1 m (s+1) i (by omega)];omega
theorem K1m g (m:Nat) (hm:m<=12):J55 (Jap g 0 m)=some (Jph 0 m):=by
 rw[Jvh J55 (Jap g 0 m) (by rw[K8];exact hm) rfl,Jv6,Jiz (Jeb _) (Jnk m 0) (Jfh _)]
def Jcb(p:Nat->Bool):Nat->List Int
 |0=>[]
 |i+1=>Jcb p i++(if p i then[(i:Int)+1]else[])
theorem Jjx p:∀i,(Jcb p i).length<=i
 |0=>Nat.le_refl _
 |i+1=>by unfold Jcb;have:=Jjx p i;split<;>simp<;>omega
theorem Kby{i:Nat}(h:p i=true):Jcb p (i+1)=Jcb p i++[(i:Int)+1]:=by show _++_=_;rw[if_pos h]
theorem K5f(h:p i=false):Jcb p (i+1)=Jcb p i:=by show _++_=_;rw[h,if_neg (by simp),List.append_nil]
def Jay(b:Int)(x:Ent):Bool:=decide (0<x.2.2.1)&&decide (x.2.2.1<b)
def Jdi(b:Int)(x:Ent):Ent:=if Jay b x then(x.1,x.2.1,0,())else x
def Jf6(b:Int)(x:Ent):Bool:= !decide (x.2.1=0)&&(!decide (b<x.2.1)&& !decide (0<x.2.2.1))
def Jr3(b:Int)(x:Ent):Ent:=if Jf6 b x then(x.1,(if 0<x.1.2.2.2.1 then b+x.1.2.2.2.1 else 0),b+x.1.2.2.2.2.1,())else x
def part(f:Ent->Ent)(g:Nat->Ent)(i:Nat):Nat->Ent:=λj=>if j<i then f (g j)else g j
theorem Joe f g m i (hi:i<m):Jap (Kav (part f g i) i (f (g i))) 0 m=Jap (part f g (i+1)) 0 m:=
 Jcs m 0 λj _ _=>by
  unfold Kav part
  grind
theorem Jju f g m i (h:f (g i)=g i):Jap (part f g i) 0 m=Jap (part f g (i+1)) 0 m:=
 Jcs m 0 λj _ _=>by
  unfold part
  grind
def Jtd(x:Ent):Prop:=0<=x.1.2.2.2.1/\x.1.2.2.2.1<=1000/\0<=x.1.2.2.2.2.1/\x.1.2.2.2.2.1<=1000
theorem K1v(m:Nat)(hm:m<=12) g (r:Int×Int×Int×Unit) (i:Nat) (hi:i<m):
  J8_1_step (m:Int) (i:Int) r (Jap (part (Jdi r.2.1) g i) 0 m) (Jcb (λj=>Jay r.2.1 (g j)) i) (Jph 0 m)=some (.inl (((i+1:Nat):Int),Jap (part (Jdi r.2.1) g (i+1)) 0 m,Jcb (λj=>Jay r.2.1 (g j)) (i+1))):=by
 have hg:(Jph 0 m).getD i 0=(i:Int)+1:=by rw[Js1 m 0 i hi];omega
 have hget:=Jl5 (part (Jdi r.2.1) g i) i m 0 (Nat.zero_le _) (by omega)
 have hp:part (Jdi r.2.1) g i i=g i:=if_neg (Nat.lt_irrefl i)
 have hl:=Jjx (λj=>Jay r.2.1 (g j)) i
 rw[hp]at hget
 unfold J8_1_step
 rw[oT,J8i (by rw[Jjj];omega),Int.toNat_natCast,hg,hget,oW]
 simp only[Option.getD_some]
 by_cases c1:0<(g i).2.2.1
 ·rw[J8w c1]
  by_cases c2:(g i).2.2.1<r.2.1
  ·have hL:Jay r.2.1 (g i)=true:=by unfold Jay;rw[decide_eq_true c1,decide_eq_true c2];rfl
   rw[J8w c2,J8i (by rw[List.length_singleton];omega),Joo _ i _ m 0 (Nat.zero_le _) (by omega)]
   have:=Joe (Jdi r.2.1) g m i hi
   rw[show Jdi r.2.1 (g i)=((g i).1,(g i).2.1,0,())from by unfold Jdi;rw[if_pos hL]]at this
   rw[this,Kby (p:=λj=>Jay r.2.1 (g j)) hL]
   rfl
  ·have hL:Jay r.2.1 (g i)=false:=by unfold Jay;rw[decide_eq_false c2];simp
   rw[J90 c2,Jju (Jdi r.2.1) g m i (by unfold Jdi;rw[hL,if_neg (by simp)]),K5f (p:=λj=>Jay r.2.1 (g j)) hL]
   rfl
 ·have hL:Jay r.2.1 (g i)=false:=by unfold Jay;rw[decide_eq_false c1];simp
  rw[J90 c1,Jju (Jdi r.2.1) g m i (by unfold Jdi;rw[hL,if_neg (by simp)]),K5f (p:=λj=>Jay r.2.1 (g j)) hL]
  rfl
theorem part_0 f g (m:Nat):Jap (part f g 0) 0 m=Jap g 0 m:=Jcs m 0 λj _ _=>oJ
theorem Kbw f g (m:Nat):Jap (part f g m) 0 m=Jap (λj=>f (g j)) 0 m:=Jcs m 0 λj _ h=>oI
theorem tick1(m:Nat)(hm:m<=12) g (r:Int×Int×Int×Unit):
  J8_1 (m:Int) 0 r (Jap g 0 m) [] (Jph 0 m)=some (r,Jap (λj=>Jdi r.2.1 (g j)) 0 m,Jcb (λj=>Jay r.2.1 (g j)) m,Jph 0 m):=by
 have:=J8u (step:=λ(s:Int×(List (Int×Ent))×List Int)=>J8_1_step (m:Int) s.1 r s.2.1 s.2.2 (Jph 0 m)) (λi (_:Unit)=>((i:Int),Jap (part (Jdi r.2.1) g i) 0 m,Jcb (λj=>Jay r.2.1 (g j)) i)) (λ_ _=>()) (λ_=>(r,Jap (part (Jdi r.2.1) g m) 0 m,Jcb (λj=>Jay r.2.1 (g j)) m,Jph 0 m)) m (λ_ _=>True)
  (λi w hi _=>⟨K1v m hm g r i hi,trivial⟩) (λw _=>by
   unfold J8_1_step
   rw[oF]) m 0 () (by omega) trivial
 rw[Kbw]at this
 exact this
theorem K1w(m:Nat)(hm:m<=12) g (hg0:∀j,Jtd (g j)) (r:Int×Int×Int×Unit) (hr:0<=r.2.1/\r.2.1<=100000) x4 (i:Nat) (hi:i<m):
  J8_2_step (m:Int) (i:Int) r (Jap (part (Jr3 r.2.1) g i) 0 m) x4 (Jcb (λj=>Jf6 r.2.1 (g j)) i) (Jph 0 m)=some (.inl (((i+1:Nat):Int),Jap (part (Jr3 r.2.1) g (i+1)) 0 m,Jcb (λj=>Jf6 r.2.1 (g j)) (i+1))):=by
 have hg:(Jph 0 m).getD i 0=(i:Int)+1:=by rw[Js1 m 0 i hi];omega
 have hget:=Jl5 (part (Jr3 r.2.1) g i) i m 0 (Nat.zero_le _) (by omega)
 have hp:part (Jr3 r.2.1) g i i=g i:=if_neg (Nat.lt_irrefl i)
 have hl:=Jjx (λj=>Jf6 r.2.1 (g j)) i
 obtain⟨o1,o2,o3,o4⟩:=hg0 i
 rw[hp]at hget
 have no:Jf6 r.2.1 (g i)=false->some (.inl (w64 ((i:Int)+1),Jap (part (Jr3 r.2.1) g i) 0 m,Jcb (λj=>Jf6 r.2.1 (g j)) i))=(some (.inl (((i+1:Nat):Int),Jap (part (Jr3 r.2.1) g (i+1)) 0 m,Jcb (λj=>Jf6 r.2.1 (g j)) (i+1))):Option ((Int×List (Int×Ent)×List Int)⊕((Int×Int×Int×Unit)×List (Int×Ent)×List Int×List Int))):=λhL=>by
  rw[Jju (Jr3 r.2.1) g m i (by unfold Jr3;rw[hL,if_neg (by simp)]),K5f (p:=λj=>Jf6 r.2.1 (g j)) hL,oW]
  rfl
 unfold J8_2_step
 rw[oT,J8i (by rw[Jjj];omega),Int.toNat_natCast,hg,hget]
 simp only[Option.getD_some]
 by_cases c1:(g i).2.1=0
 ·rw[J8w c1];exact no (by unfold Jf6;rw[decide_eq_true c1];rfl)
 rw[J90 c1]
 by_cases c2:r.2.1<(g i).2.1
 ·rw[J8w c2];exact no (by unfold Jf6;rw[decide_eq_true c2];simp)
 rw[J90 c2]
 by_cases c3:0<(g i).2.2.1
 ·rw[J8w c3];exact no (by unfold Jf6;rw[decide_eq_true c3];simp)
 rw[J90 c3]
 have hL:Jf6 r.2.1 (g i)=true:=by unfold Jf6;rw[decide_eq_false c1,decide_eq_false c2,decide_eq_false c3];rfl
 have hs:=Joe (Jr3 r.2.1) g m i hi
 rw[Kby (p:=λj=>Jf6 r.2.1 (g j)) hL,<-hs,show Jr3 r.2.1 (g i)=((g i).1,(if 0<(g i).1.2.2.2.1 then r.2.1+(g i).1.2.2.2.1 else 0),r.2.1+(g i).1.2.2.2.2.1,())from by unfold Jr3;rw[if_pos hL]]
 by_cases c4:0<(g i).1.2.2.2.1
 ·rw[J8w c4,J8i (by rw[List.length_singleton];omega),Joo _ i _ m 0 (Nat.zero_le _) (by omega),oX ((i:Int)+1),oX (r.2.1+(g i).1.2.2.2.1),oW,if_pos c4]
  rfl
 ·rw[J90 c4,J8i (by rw[List.length_singleton];omega),Joo _ i _ m 0 (Nat.zero_le _) (by omega),oX ((i:Int)+1),oX (r.2.1+(g i).1.2.2.2.2.1),if_neg c4]
  rfl
theorem tick2(m:Nat)(hm:m<=12) g (hg0:∀j,Jtd (g j)) (r:Int×Int×Int×Unit) (hr:0<=r.2.1/\r.2.1<=100000) x4:
  J8_2 (m:Int) 0 r (Jap g 0 m) x4 [] (Jph 0 m)=some (r,Jap (λj=>Jr3 r.2.1 (g j)) 0 m,x4,Jcb (λj=>Jf6 r.2.1 (g j)) m):=by
 have:=J8u (step:=λ(s:Int×(List (Int×Ent))×List Int)=>J8_2_step (m:Int) s.1 r s.2.1 x4 s.2.2 (Jph 0 m)) (λi (_:Unit)=>((i:Int),Jap (part (Jr3 r.2.1) g i) 0 m,Jcb (λj=>Jf6 r.2.1 (g j)) i)) (λ_ _=>()) (λ_=>(r,Jap (part (Jr3 r.2.1) g m) 0 m,x4,Jcb (λj=>Jf6 r.2.1 (g j)) m)) m (λ_ _=>True)
  (λi w hi _=>⟨K1w m hm g hg0 r hr x4 i hi,trivial⟩) (λw _=>by
   unfold J8_2_step
   rw[oF]) m 0 () (by omega) trivial
 rw[Kbw]at this
 exact this
theorem K9c(h:Jtd x):Jtd (Jdi b x):=by unfold Jdi;split<;>exact h
theorem K6x(m:Nat)(hm:m<=12) g (hg0:∀j,Jtd (g j)) a b l (hb:0<=b/\b<100000) (hl:0<=l/\l<=100000):
  J8 (a,b,l,()) (Jap g 0 m)=some ((a,b+1,l+(Jcb (λj=>Jay (b+1) (g j)) m).length,()),Jap (λj=>Jr3 (b+1) (Jdi (b+1) (g j))) 0 m,Jcb (λj=>Jay (b+1) (g j)) m,Jcb (λj=>Jf6 (b+1) (Jdi (b+1) (g j))) m):=by
 have hpl:=Jjx (λj=>Jay (b+1) (g j)) m
 unfold J8
 rw[show J33 (Jap g 0 m)=some ()from rfl,J8f,K1m g m hm,J8f,Jjj]
 dsimp only
 rw[oW,tick1 m hm g (a,b+1,l,()),J8f]
 dsimp only
 rw[Jjj,oW,tick2 m hm (λj=>Jdi (b+1) (g j)) (λj=>K9c (hg0 j)) (a,b+1,l+(Jcb (λj=>Jay (b+1) (g j)) m).length,()) ⟨by show 0<=b+1;omega,by show b+1<=100000;omega⟩]
 rfl
def Qm:Qry:=(2,[115,47],[115,48],1,3,())
theorem cmD(n:Nat)(hn:n<=4)(S:List Val)(h:Hdr) nx (hk:w64 ((0:Int)+1)=h.1) (h1:1<=h.1) (h2:h.1<=16) N W B R:
  J4_2 0 (J8t n) (n:Int) 0 (J8t n,J8x n,Jab n,N,W,B,R,()) h () [] nx (Jp3 h)=some (0,(J8t n,J8x n,Jab n,N,W,B,R,()),h,(),sgJ h (List.range n),nx):=by
 have e1:(J8t n).length=n:=Jb7 _ _
 have e2:(J8x n).length=n:=Jb7 _ _
 have e3:(Jab n).length=n:=Jb7 _ _
 have:=J8u (step:=λ(t:Int×List J9q)=>J4_2_step 0 (J8t n) (n:Int) t.1 (J8t n,J8x n,Jab n,N,W,B,R,()) h () t.2 nx (Jp3 h)) (λi (_:Unit)=>((i:Int),sgJ h (List.range i))) (λ_ _=>()) (λ_=>(0,(J8t n,J8x n,Jab n,N,W,B,R,()),h,(),sgJ h (List.range n),nx)) n (λ_ _=>True) (λi w hi _=>⟨?_,trivial⟩) (λw _=> ?_) n 0 () (by omega) trivial
 ·exact this
 ·unfold J4_2_step
  have g1:(J8t n).getD i (List.replicate 32 (0:UInt8))=Jcn i:=Jaf _ _ hi
  have g2:(J8x n).getD i []=Jc0 (Jcn i):=Jaf _ _ hi
  have g3:(Jab n).getD i []=nm i:=Jaf _ _ hi
  dsimp only
  rw[oT,oN,oN,oN,Int.toNat_natCast,g1,g2,g3,hk,Kc2 _ (by rw[Jb9];omega) (Jfw _) _ _ (Jhf i) _ h1 h2 (by rw[Jke];omega),J8f,J8i (by rw[Jhg,List.length_range];simp;omega),oW,Jmm]
  rfl
 ·unfold J4_2_step
  rw[oF]
def FstB(n:Nat)(S:List Val)(b:Block):Prop:=b.1=hdS S [] 1/\b.2.1=sgJ (hdS S [] 1) (List.range n)/\b.2.2.1=S/\b.2.2.2.1=S
theorem Kda(n:Nat)(hn:n<=4) S (hS:Jth S):∃b,J4 1 (J8t n,J8x n,Jab n,[],S,[],[],())=some (1,(J8t n,J8x n,Jab n,[],S,[b],[[]],()))/\FstB n S b:=by
 have e1:(J8t n).length=n:=Jb7 _ _
 have hSl:=hS.1
 have hnil:([]:List Val)++S=S:=rfl
 have hr:=K49 (S:=S) (B:=[]) (t:=1) (by simp) (by omega) (by omega)
 have hh:=Jq6 S [] 1
 have hd1:=Kdw S [] 1
 have w1:w64 ((([]:List Block).length:Int)+1)=1:=rfl
 have hh0:((1:Int),(1:Int),K61,setH S,setH S,List.replicate 32 (0:UInt8),())=hdS S [] 1:=by unfold hdS;rfl
 unfold J4
 rw[J90 (by simp),oF,oF,J90 (by simp),J8i (by simp;omega),Jt1,J8f,hnil,Je5 S hS,J8f,J8f,w1,hh0,Jek _ hh,J8f,<-Jvp hr,e1]
 rw[show(([]:List Block).length:Int)=0 from rfl,cmD n hn S _ S (by rw[hd1];rfl) (by rw[hd1];simp) (by rw[hd1];simp),J8f]
 dsimp only
 exact⟨_,rfl,rfl,rfl,rfl,rfl⟩
theorem Ka4(n:Nat)(hn:n<=4) S (hS:Jth S) (T:Int):∃b,J43 T 1 3 () (J8t n) (J8x n) (Jab n) S=some (1,(),(J8t n,J8x n,Jab n,[],S,[b],[[]],()),0,0,(),([b.1],b.2.2.2.1,T,false,()),(0,0,[(Qm,1,0,true,())],()),[],[],0,0,0,(false,()),[])/\FstB n S b:=by
 obtain⟨b,hb,hf⟩:=Kda n hn S hS
 unfold J43
 rw[hb,J8f]
 unfold J5n Jp Jp_1
 rw[J9d (r:=(0,(0,0,[],()),((2:Int),([115,47]:List UInt8),([115,48]:List UInt8),1,3,()))) rfl]
 exact⟨b,rfl,hf⟩
noncomputable def gM:Nat->Ent:=λ_=>(Qm,1,0,())
section
variable {n : Nat} {p : Nat → Int} {f : Nat → Int}
theorem Jvu(hp:Jkn p)(h1:1<=n)(hn:n<=4)(hf:f 0=1)(T:Int)(hT:0<=T/\T<=1073741824):J7j (J8s p n) (J8t n) T 1 3=
  some (0,1,1,(),(),J8t n,J8x n,J8s p n,stR [] [[]],BL n p f [[]],(),([hL n p f [[]] 0],J8s p n,T,false,()),(1,0,0,()),Jap gM 0 1,(),[],([],()),(0,0,[],false,()),0,0,0,false,(),[],[]):=by
 have hr:Jms 1 f:=by
  refine⟨λi hi=> ?_,λi hi=>by omega⟩
  obtain rfl:i=0:=by omega
  omega
 have hl:J7e (hL n p f [[]] 0) (J8s p n) T=some (.inr (0,([hL n p f [[]] 0],J8s p n,T,false,()))):=Kea (r:=rR [[]]) (m:=1) h1 hn (λ_=>hp) (by omega) hr hT (by omega)
 have e:J74 (hL n p f [[]] 0) (J8s p n) T 1 3=some (0,(),([hL n p f [[]] 0],J8s p n,T,false,()),(1,0,0,()),Jap gM 0 1,(),[],([],()),(0,0,[],false,()),0,0,0,false,(),[]):=by
  unfold J74
  rw[hl]
  rfl
 unfold J7j
 rw[K90 p hp h1 hn,J8f]
 have hc:=Kd8 (f:=f) hp h1 hn (by rw[hf];omega)
 rw[hf]at hc
 rw[hc,J8f]
 rw[show J1j 1 () (J8t n) (J8x n) (J8s p n) (stR [] [[]]) (BL n p f [[]])=_ from Kb8 hn (by simp) (by simp) _,J8f]
 rw[show J74 (gL n p f [[]] 0).1 (gL n p f [[]] 0).2.2.2.1 T 1 3=_ from e]
 rfl
end
theorem begunH(ps:List Int)(hps:ps.length<=140737488351232) f (hf:f 0=1) (T:Int) (hT:0<=T/\T<=1073741824):∃b,J6j ps T 1 3=
  some (1,1,(),(),J8t (Jpc ps),J8x (Jpc ps),Jxq ps,stR [] [[]],BL (Jpc ps) (pw ps) f [[]],(),([hL (Jpc ps) (pw ps) f [[]] 0],Jxq ps,T,false,()),(1,0,0,()),Jap gM 0 1,(),[],([],()),(0,0,[],false,()),0,0,0,false,(),[],[],(1,(),(J8t (Jpc ps),J8x (Jpc ps),Jab (Jpc ps),[],Jxq ps,[b],[[]],()),0,0,(),([b.1],b.2.2.2.1,T,false,()),(0,0,[(Qm,1,0,true,())],()),[],[],0,0,0,(false,()),[]))/\FstB (Jpc ps) (Jxq ps) b:=by
 obtain⟨h1,hn⟩:=Kk ps
 obtain⟨u,hu,hz⟩:=Ka4 (Jpc ps) hn (Jxq ps) (Jmi _ _ hn) T
 have hw:=Jvu (Keo ps) h1 hn hf T hT
 unfold J6j
 rw[Jyi ps (by omega),J8f]
 rw[show Jxq ps=J8s (pw ps) (Jpc ps)from rfl]at hu⊢
 rw[hw]
 rw[hu]
 exact⟨u,rfl,hz⟩
def SgT(l:List J9q):Prop:=l.length<=16/\∀s∈l,s.1.length<=100/\Jr1 s.2.1
def Kaz(b:Block):Prop:=Jb3 b.1/\SgT b.2.1/\K22 b.2.2.1/\K22 b.2.2.2.1
def ChnT(n:Nat)(c:Chn):Prop:=c.1=J8t n/\c.2.1=J8x n/\c.2.2.1=Jab n/\Jfk c.2.2.2.1/\K22 c.2.2.2.2.1/\c.2.2.2.2.2.1.length<=16/\c.2.2.2.2.2.2.1.length=c.2.2.2.2.2.1.length/\(∀b∈c.2.2.2.2.2.1,Kaz b)/\∀r∈c.2.2.2.2.2.2.1,Jfk r
theorem Jlb(h:K22 l):Jth l:=⟨by have:=h.1;omega,λv hv=>⟨by have:=(h.2 v hv).1;omega,(h.2 v hv).2.1⟩⟩
theorem K62(h:Jfk l):Jy9 l:=⟨by have:=h.1;omega,λp hp=>⟨by have:=(h.2 p hp).1;omega,by have:=(h.2 p hp).2;omega⟩⟩
theorem Kam(h:Jfk l):Ok (J2l l) (λr=>r.length=32):=by
 have k:=K62 h
 have hl:=h.1
 unfold J2l
 rw[Jqn l k,J8f,Jk4 _ (by rw[J9n];omega) (Jdj k),J8f,K5p _ _ (Jb4 _)]
 exact Jkk.2 (Ja8 _)
theorem Kfj(h:Hdr)(h1:1<=h.1)(h2:h.1<=16)(hn:n<=4):SgT (sgJ h (List.range n)):=by
 refine⟨by rw[Jhg,List.length_range];omega,λs hs=> ?_⟩
 obtain⟨i,hi,rfl⟩:=List.mem_map.1 hs
 have:i<4:=by have:=List.mem_range.1 hi;omega
 refine⟨?_,K6d h h1 h2 _ _⟩
 show(nm i).length<=100
 rcases i with _|_|_|_|i<;>first|decide|omega
theorem cmE(k n:Nat)(hn:n<=4)(h:Hdr)(hk:w64 ((k:Int)+1)=h.1)(h1:1<=h.1)(h2:h.1<=16) N W nx B R X:
  J4_1 k (J8t n) (n:Int) 0 (J8t n,J8x n,Jab n,N,W,B,R,()) h X () [] nx (Jp3 h)=some ((k:Int),(J8t n,J8x n,Jab n,N,W,B,R,()),h,X,(),sgJ h (List.range n),nx):=by
 have e1:(J8t n).length=n:=Jb7 _ _
 have e2:(J8x n).length=n:=Jb7 _ _
 have e3:(Jab n).length=n:=Jb7 _ _
 have:=J8u (step:=λ(t:Int×List J9q)=>J4_1_step k (J8t n) (n:Int) t.1 (J8t n,J8x n,Jab n,N,W,B,R,()) h X () t.2 nx (Jp3 h)) (λi (_:Unit)=>((i:Int),sgJ h (List.range i))) (λ_ _=>()) (λ_=>((k:Int),(J8t n,J8x n,Jab n,N,W,B,R,()),h,X,(),sgJ h (List.range n),nx)) n (λ_ _=>True) (λi w hi _=>⟨?_,trivial⟩) (λw _=> ?_) n 0 () (by omega) trivial
 ·exact this
 ·unfold J4_1_step
  have g1:(J8t n).getD i (List.replicate 32 (0:UInt8))=Jcn i:=Jaf _ _ hi
  have g2:(J8x n).getD i []=Jc0 (Jcn i):=Jaf _ _ hi
  have g3:(Jab n).getD i []=nm i:=Jaf _ _ hi
  dsimp only
  rw[oT,oN,oN,oN,Int.toNat_natCast,g1,g2,g3,hk,Kc2 _ (by rw[Jb9];omega) (Jfw _) _ _ (Jhf i) _ h1 h2 (by rw[Jke];omega),J8f,J8i (by rw[Jhg,List.length_range];simp;omega),oW,Jmm]
  rfl
 ·unfold J4_1_step
  rw[oF]
theorem K36(hn:n<=4)(h:ChnT n c)(h0:1<=c.2.2.2.2.2.1.length)(t:Int):Ok (J4 t c) (λr=>ChnT n r.2/\c.2.2.2.2.2.1.length<=r.2.2.2.2.2.2.1.length):=by
 obtain⟨c1,c2,c3,N,S,B,R,_⟩:=c
 obtain⟨rfl,rfl,rfl,hN,hS,hB,hR,hb,hr⟩:=h
 dsimp only at*
 have hl:=hS.1
 have hc:ChnT n (J8t n,J8x n,Jab n,N,S,B,R,()):=⟨rfl,rfl,rfl,hN,hS,hB,hR,hb,hr⟩
 have hm:∀d:Block,B.getD (w64 ((B.length:Int) - 1)).toNat d∈B:=λd=>by
  rw[oW,List.getD_eq_getElem?_getD,List.getElem?_eq_getElem (by omega)];exact List.getElem_mem ..
 unfold J4
 simp only[wp,List.nil_append,List.length_nil]
 have e:=oX ((B.length:Int) - 1)
 refine⟨λ_=>⟨hc,by omega⟩,λq0=>⟨λ_=>⟨hc,by omega⟩,λq1=>⟨λ_=>⟨hc,by omega⟩,λq2=>⟨λ_=>⟨⟨by omega,by omega⟩,λ_=>⟨hc,by omega⟩,λq3=>⟨by omega,(Kam hN).imp λrt hrt=> ?_⟩⟩,λq3=>by omega⟩⟩⟩⟩
 have hlast:=hb _ (hm ((0,0,(List.replicate 32 (0:UInt8)),(List.replicate 32 (0:UInt8)),(List.replicate 32 (0:UInt8)),(List.replicate 32 (0:UInt8)),()),([]:List J9q),([]:List Val),([]:List Val),()))
 generalize B.getD _ _=b0 at hlast⊢
 refine Ok.eq (Jek _ hlast.1) (Ok.eq (Je5 _ (Jlb hlast.2.2.2)) (Ok.eq (Je5 _ (Jlb hS)) ?_))
 have e1:w64 ((B.length:Int)+1)=(B.length:Int)+1:=oW
 have e2:(J8t n).length=n:=Jb7 _ _
 rw[e1,e2]
 obtain⟨x,hx⟩:∃x:Hdr,x=((B.length:Int)+1,t,rt,setH b0.2.2.2.1,setH S,sha (72::Jgr b0.1),()):=⟨_,rfl⟩
 rw[<-hx]
 have hh:Jb3 x:=by rw[hx];exact⟨hrt,Jaq _,Jaq _,Ja8 _⟩
 have x1:x.1=(B.length:Int)+1:=by rw[hx]
 have x2:Jav x=true:=by rw[Jba,x1,hx];dsimp only;omega
 refine Ok.eq (Jek _ hh) ?_
 rw[<-Jvp x2]
 refine Ok.eq (cmE B.length n hn x (by omega) (by omega) (by omega) N S S B R _) ?_
 have hg:=Kfj x (by omega) (by omega) hn
 simp only[List.length_cons,List.length_nil]
 refine⟨by omega,by omega,by omega,by omega,⟨rfl,rfl,rfl,hN,hS,by simp;omega,by simp;omega,λb hx=> ?_,λr hx=> ?_⟩,by simp⟩
 ·rcases List.mem_append.1 hx with hx|hx
  ·exact hb b hx
  ·rw[List.mem_singleton.1 hx];exact⟨hh,hg,hlast.2.2.2,hS⟩
 ·rcases List.mem_append.1 hx with hx|hx
  ·exact hr r hx
  ·rw[List.mem_singleton.1 hx];exact hN
theorem Jqr(h:l.length<=1000):Ok (J0i l) (λ_=>True):=by
 simp only[J0i,wp]
 refine(Jeg (Q:=λ_=>True) (λi:Int=>0<=i/\i<=l.length) (λi=>l.length - i) (by simp) λi hi=> ?_).imp λr _=> ?_
 ·have e1:=oX (i+1);have e2:=oX (i - 1)
  simp only[J0i_1_step,wp]
  repeat' first|trivial|omega|intro _|apply And.intro
 ·cases r<;>simp[wp]
theorem Kz(h:l.length<=1000):Ok (J0k l) (λ_=>True):=by
 simp only[J0k,wp]
 refine Jeg (Q:=λ_=>True) (λi:Int×Int=>0<=i.2/\i.2<=l.length) (λi=>l.length - i.2) (by simp) λi hi=> ?_
 simp only[J0k_1_step,wp];grind [J9t]
theorem Jqu(hl:l.length<=1000)(hh:Jb3 h)(hs:SgT s):Ok (Je l h s) (λ_=>True):=by
 have hsl:=hs.1
 simp only[Je,Je_3,wp,Jek h hh,J8f]
 refine(Jeg (Q:=λr:Int⊕(List Val×List J9q×Int×Hdr×List UInt8)=>match r with| .inl _=>True| .inr o=>o.1=l/\o.2.1=s/\o.2.2.2.1=h/\o.2.2.2.2=sha (72::Jgr h)) (λi:Int=>0<=i/\i<=s.length) (λi=>s.length - i) (by simp) λi hi=> ?_).imp λr hr=> ?_
 ·have e1:=oX (i+1);have e2:=oX (i - 1)
  simp only[Je_1_step,wp,e1,e2]
  repeat' first|trivial|omega|intro _|apply And.intro
 ·cases r with
  |inl r=>exact Jkk.2 trivial
  | inr o=>
   obtain⟨r1,r2,r3,r4⟩:=hr
   simp only[wp,r1,r2,r3,r4]
   refine Jeg (Q:=λ_=>True) (λi:List Val×Int×List J9q×Int×Int×Hdr×List UInt8=>i.1=l/\i.2.2.1=s/\i.2.2.2.1=s.length/\0<=i.2.2.2.2.1/\i.2.2.2.2.1<=s.length/\i.2.2.2.2.2.1=h/\i.2.2.2.2.2.2=sha (72::Jgr h)) (λi=>s.length - i.2.2.2.2.1) ⟨rfl,rfl,rfl,by simp,by simp,rfl,rfl⟩ λi hi=> ?_
   obtain⟨i1,i2,i3,i4,i5,i6,i7⟩:=hi
   simp only[Je_3_step,Je_2,wp,i1,i2,i3,i6,i7]
   refine⟨λc=>⟨by omega, ?_⟩,λ_=>trivial⟩
   have hv:=hs.2 _ (show s.getD i.2.2.2.2.1.toNat (([]:List UInt8),((0:Int),(([]:List (List UInt8)),([]:List (List UInt8)),()),([]:List (List UInt8)),()),())∈s by
    rw[List.getD_eq_getElem?_getD,List.getElem?_eq_getElem (by omega)];exact List.getElem_mem ..)
   refine(Jeg (Q:=λo:List Val×Int×List J9q×Int×Int×Hdr×List UInt8=>o.1=l/\o.2.2.1=s/\o.2.2.2.1=s.length/\o.2.2.2.2.1=i.2.2.2.2.1/\o.2.2.2.2.2.1=h/\o.2.2.2.2.2.2=sha (72::Jgr h)) (λj:Int×Int=>0<=j.2/\j.2<=l.length) (λj=>l.length - j.2) (by simp) λj hj=> ?_).imp λo ho=>by grind [J9t]
   simp only[Je_2_step,wp]
   refine⟨λc=>⟨by omega,λ_=>Ok.eq (Ker _ _ _ (by rw[Ja8];omega) _ hv.2) (by grind [J9t]),by grind [J9t]⟩,λ_=>by simp⟩
theorem Kay(hb:Kaz b):Ok (J60 b) (λ_=>True):=by
 have h1:=hb.2.2.1.1;have h2:=hb.2.2.2.1
 simp only[J60,J5f,wp,Je5 _ (Jlb hb.2.2.1),Je5 _ (Jlb hb.2.2.2)]
 have a:=Jqr (l:=b.2.2.1) (by omega)
 have c:=Jqr (l:=b.2.2.2.1) (by omega)
 repeat' first|trivial|intro _|apply And.intro|refine a.imp λ_ _=> ?_|refine c.imp λ_ _=> ?_
def CliT(c:Cli):Prop:=1<=c.1.length/\c.1.length<=6/\K22 c.2.1
theorem Kce(hb:Kaz b)(hc:CliT c)(t:Int):Ok (J1o b t c) (λr=>CliT r.2):=by
 obtain⟨c1,c2,c3⟩:=hc
 have hc:CliT c:=⟨c1,c2,c3⟩
 have h1:=hb.2.2.1.1;have h2:=c3.1
 have s1:=Jqu (l:=b.2.2.1) (by omega) hb.1 hb.2.1
 have s2:=Jqu (l:=c.2.1) (by omega) hb.1 hb.2.1
 have t1:=Kz (l:=b.2.2.1) (by omega)
 have t2:=Kz (l:=c.2.1) (by omega)
 have e:=oX ((c.1.length:Int) - 1)
 unfold J1o J4h
 simp only[wp,List.length_append,List.length_cons,List.length_nil]
 repeat' first|exact hc|omega|intro _|with_reducible apply And.intro|refine(Kay hb).imp λ_ _=> ?_|refine s1.imp λ_ _=> ?_|refine t1.imp λ_ _=> ?_|refine s2.imp λ_ _=> ?_|refine t2.imp λ_ _=> ?_|exact⟨by simp,by simp;omega,hb.2.2.2⟩|exact⟨by simp[Ja1];omega,by simp[Ja1];omega,hb.2.2.2⟩
abbrev Kb3:=Qry×Int×Int×Bool×Unit
abbrev RReg:=Int×Int×List Kb3×Unit
def QT(q:Qry):Prop:=q.2.1.length<=100/\q.2.2.1.length<=100
def EnT(l:List Kb3):Prop:=∀e∈l,QT e.1
abbrev zRe:Kb3:=((0,([]:List UInt8),([]:List UInt8),0,0,()),0,0,false,())
theorem Jwd(h:EnT l)(i:Nat):QT (l.getD i zRe).1:=by
 rw[List.getD_eq_getElem?_getD]
 cases e:l[i]? with
 |none=>exact⟨by simp,by simp⟩
 |some x=>exact h x (List.mem_of_getElem? e)
theorem Jrf(h:EnT l)(i:Nat)(hx:QT x.1):EnT (l.set i x):=λe he=>by
 rcases List.mem_or_eq_of_mem_set he with he|rfl
 ·exact h e he
 ·exact hx
def RgT(b:Nat)(r:RReg):Prop:=r.2.2.1.length<=b/\EnT r.2.2.1
section
variable {b : Nat} {r : RReg}
theorem Jmo(hb:b<=1000)(h:RgT b r)(i:Int):Ok (J0j i r) (λx=>x=true->1<=i/\i<=r.2.2.1.length):=by
 have hl:=h.1
 have e1:1<=i->i<=r.2.2.1.length->w64 (i - 1)=i - 1:=λ_ _=>oW
 simp only[J0j,wp]
 repeat' first|omega|contradiction|intro _|with_reducible apply And.intro
theorem K52(hb:b<=1000)(h:RgT b r)(i:Int):Ok (J1p i r) (λx=>x=true->1<=i/\i<=r.2.2.1.length):=by
 have hl:=h.1
 have e1:1<=i->i<=r.2.2.1.length->w64 (i - 1)=i - 1:=λ_ _=>oW
 simp only[J1p,wp]
 exact(Jmo hb h i).imp λx hx=>by repeat' first|omega|contradiction|(have:=hx ‹_›;omega)|intro _|with_reducible apply And.intro
theorem Ka0(hb:b<=1000)(h:RgT b r)(i:Int):Ok (J2t i r) (λx=>RgT b x.2):=by
 have hl:=h.1
 have e1:1<=i->i<=r.2.2.1.length->w64 (i - 1)=i - 1:=λ_ _=>oW
 simp only[J2t,wp,List.nil_append,List.length_nil]
 exact(Jmo hb h i).imp λx hx=>⟨λ_=>h,λc=>⟨by omega,by have:=hx c;have:=e1 this.1 this.2;omega,by show(List.set _ _ _).length<=b;rw[List.length_set];exact hl,Jrf h.2 _ ⟨by simp,by simp⟩⟩⟩
theorem Kaa(hb:b<=1000)(h:RgT b r)(i:Int)(hi:1<=i/\i<=r.2.2.1.length):Ok (J2u i r) (λx=>RgT b (x.1,x.2.1,x.2.2.2,())):=by
 have hl:=h.1
 have e1:=oX (i - 1)
 simp only[J2u,wp,List.nil_append,List.length_nil]
 exact⟨by omega,by omega,by show(List.set _ _ _).length<=b;rw[List.length_set];exact hl,Jrf h.2 _ (Jwd h.2 _)⟩
theorem Kes(hb:b<=1000)(h:RgT b r)(hq:QT q):Ok (Jp q r) (λo=>RgT (b+1) o.2.2):=by
 have hl:=h.1
 have h':RgT (b+1) r:=⟨by omega,h.2⟩
 have e:Ok (J4v q) (λ_=>True):=by
  simp only[J4v,wp];repeat' first|trivial|intro _|apply And.intro
 simp only[Jp,wp,List.nil_append,List.length_nil,List.length_cons]
 refine e.imp λ_ _=>⟨λ_=>h',λ_=> ?_⟩
 refine(Jeg (Q:=λo=>o.2.1=r/\o.2.2=q) (λs:Int×Int=>0<=s.2/\s.2<=r.2.2.1.length) (λs=>r.2.2.1.length - s.2) (by simp) λs h=> ?_).imp λo ho=> ?_
 ·simp only[Jp_1_step,wp]
  grind [J9t]
 ·obtain⟨o1,o2⟩:=ho
  simp only[o1,o2]
  refine⟨λ_=>h',λ_=>⟨by omega,by omega,by show(_++_:List Kb3).length<=_;simp;omega,λe he=> ?_⟩⟩
  rcases List.mem_append.1 he with he|he
  ·exact h.2 e he
  ·rw[List.mem_singleton.1 he];exact hq
theorem Kft(hb:b<=1000)(h:RgT b r):Ok (Jg r) (λx=>RgT b (x.1,x.2.1,x.2.2.2.1,())):=by
 have hl:=h.1
 simp only[Jg,wp,List.nil_append,List.length_nil]
 refine⟨by omega,(Jeg (Q:=λo:Int×Int×Unit×List Kb3×List Int=>o.2.2.2.1.length=r.2.2.1.length/\EnT o.2.2.2.1/\o.2.2.2.2.length<=1000) (λs:Int×List Kb3×List Int=>0<=s.1/\s.1<=r.2.2.1.length/\s.2.1.length=r.2.2.1.length/\EnT s.2.1/\s.2.2.length<=s.1) (λs=>r.2.2.1.length - s.1) ⟨by simp,by simp,rfl,h.2,by simp⟩ λs hs=> ?_).imp λo ho=> ?_⟩
 ·have g:=Jwd hs.2.2.2.1
  have st:=λ(i:Nat) (x:Kb3)=>Jrf (x:=x) hs.2.2.2.1 i
  have e1:=oX (s.1+1)
  simp only[Jg_1_step,wp,List.length_append,List.length_cons,List.length_nil,List.length_set,e1]
  repeat' first|omega|exact hs.2.2.2.1|exact st _ _ (g _)|intro _|with_reducible apply And.intro
 ·refine Jeg (λs:Int×List Kb3×List Int=>0<=s.1/\s.1<=o.2.2.2.1.length/\s.2.1.length=o.2.2.2.1.length/\EnT s.2.1/\s.2.2.length<=s.1) (λs=>o.2.2.2.1.length - s.1) ⟨by simp,by simp,rfl,ho.2.1,by simp⟩ λs hs=> ?_
  have e1:=oX (s.1+1)
  simp only[Jg_2_step,wp,List.length_append,List.length_cons,List.length_nil,List.length_set,e1]
  repeat' first|omega|exact hs.2.2.2.1|exact g _|refine Jrf ?_ _ ?_|refine Jwd ?_ _|exact⟨by dsimp only;omega,hs.2.2.2.1⟩|intro _|with_reducible apply And.intro
end
abbrev Um:=List (List UInt8×Int)
def Jxz:Um->Int
 |[]=>0
 |p::r=>p.2+Jxz r
def K7l:Um->Prop
 |[]=>True
 |p::r=>0<=p.2/\K7l r
theorem Jp4 x:∀{m:Um},K7l m->0<=(J99 x m).getD 0/\(J99 x m).getD 0<=Jxz m
 |[],_=>by simp[J99,Jxz]
 |p::r,h=>by
  have h1:=Jp4 x h.2;have:=h.1
  unfold J99 Jxz
  by_cases e:x=p.1
  ·rw[decide_eq_true e];simp;omega
  ·rw[decide_eq_false e,cond_false];omega
theorem Jp6 x (y:Int) (hy:0<=y):∀{m:Um},K7l m->K7l (Jaj x y m)/\Jxz (Jaj x y m)=Jxz m - (J99 x m).getD 0+y
 |[],_=>by simp[Jaj,K7l,Jxz,J99,hy]
 |p::r,h=>by
  have h1:=Jp6 x y hy h.2
  unfold Jaj J99
  by_cases e:x=p.1
  ·rw[decide_eq_true e,cond_true,cond_true];simp only[Option.getD_some,Jxz];exact⟨⟨hy,h.2⟩,by omega⟩
  ·rw[decide_eq_false e,cond_false,cond_false];simp only[Jxz];exact⟨⟨h.1,h1.1⟩,by have:=h1.2;omega⟩
theorem Jy2 x:∀{m:Um},K7l m->K7l (Ja7 (Ty.beq .str) x m)/\Jxz (Ja7 (Ty.beq .str) x m)=Jxz m - (J99 x m).getD 0
 |[],_=>by simp[Ja7,K7l,J99]
 |p::r,h=>by
  have h1:=Jy2 x h.2
  unfold Ja7 J99
  have hb:Ty.beq .str x p.1=decide (x=p.1):=rfl
  rw[hb]
  by_cases e:x=p.1
  ·rw[decide_eq_true e,cond_true,cond_true];simp only[Option.getD_some,Jxz];exact⟨h.2,by omega⟩
  ·rw[decide_eq_false e,cond_false,cond_false];simp only[Jxz];exact⟨⟨h.1,h1.1⟩,by have:=h1.2;omega⟩
structure Jc6(s p a:Int)(m:Um):Prop where
 s0:0<=s
 p0:0<=p
 top:s+p<=1073741824
 a0:0<=a
 a1:a<=1073741824
 sum:Jxz m=a
 non:K7l m
theorem K60 x (n:Int):∃b,J7q x n=some b/\(b=true->1<=n/\n<=1073741824):=by
 unfold J7q
 by_cases h1:x=[]
 ·rw[Jcq h1];exact⟨_,rfl,by simp⟩
 rw[Jd9 h1]
 by_cases h2:(x.length:Int)<=16
 ·rw[J8w h2]
  by_cases h3:1<=n
  ·rw[J8w h3];exact⟨_,rfl,λh=>⟨h3,of_decide_eq_true h⟩⟩
  ·rw[J90 h3];exact⟨_,rfl,by simp⟩
 ·rw[J90 h2];exact⟨_,rfl,by simp⟩
theorem Jjr{x y:Int}(hx:0<=x)(hx1:x<=1073741824)(hy:0<=y)(hy1:y<=1073741824):0<=x*y/\x*y<=1152921504606846976:=by
 refine⟨Int.mul_nonneg hx hy, ?_⟩
 have:=Int.mul_le_mul hx1 hy1 hy (by omega:(0:Int)<=1073741824)
 omega
theorem Jhz(hx:0<=x)(hx1:x<=1152921504606846976)(hy:0<=y):0<=Int.tdiv x y/\Int.tdiv x y<=1152921504606846976:=by
 rw[Int.tdiv_eq_ediv_of_nonneg hx]
 have h1:=Int.ediv_nonneg hx hy
 have h2:=Int.ediv_le_self y hx
 omega
theorem Jxi(h:Jc6 s p a m) b u:J0y s p a b u m=some (s+p):=by
 have:=h.s0;have:=h.p0;have:=h.top
 unfold J0y
 rw[oW]
theorem Ke9(h:Jc6 s p a m)(x:List UInt8)(n:Int)(b:Bool)(u:Unit):
  ∃k e p' a' m',J5c x n s p a b u m=some (k,e,p',a',m')/\Jc6 s p' a' m'/\(e=0->p'=p+n)/\(e≠0->p'=p):=by
 obtain⟨may,hmay,hn⟩:=K60 x n
 have s0:=h.s0;have p0:=h.p0;have tp:=h.top;have a0:=h.a0;have a1:=h.a1
 have hno:∀(e:Int),e≠0->∃k e' p' a' m',some ((0:Int),e,p,a,m)=some (k,e',p',a',m')/\Jc6 s p' a' m'/\(e'=0->p'=p+n)/\(e'≠0->p'=p):=
  λe he=>⟨_,_,_,_,_,rfl,h,λh=>absurd h he,λ_=>rfl⟩
 have last:∀k:Int,0<=k->k<=1073741824 - a->1<=n->s+p+n<=1073741824->∃k' e' p' a' m',
   J8g (decide ((Option.getD (J99 x m) (0:Int))=(0:Int))) (J8g (decide ((30:Int)<=((List.length m:Nat):Int))) (some ((0:Int),(7:Int),p,a,m)) (some (k,(0:Int),w64 (p+n),w64 (a+k),Jaj x (w64 ((Option.getD (J99 x m) (0:Int))+k)) m)))
    (some (k,(0:Int),w64 (p+n),w64 (a+k),Jaj x (w64 ((Option.getD (J99 x m) (0:Int))+k)) m))=some (k',e',p',a',m')/\Jc6 s p' a' m'/\(e'=0->p'=p+n)/\(e'≠0->p'=p):=by
  intro k k0 k1 n1 hp
  obtain⟨g0,g1⟩:=Jp4 x h.non
  rw[h.sum]at g1
  have hput:=Jp6 x ((J99 x m).getD 0+k) (by omega) h.non
  have hok:Jc6 s (p+n) (a+k) (Jaj x ((J99 x m).getD 0+k) m):=⟨s0,by omega,by omega,by omega,by omega,by rw[hput.2,h.sum];omega,hput.1⟩
  rw[oX (p+n),oX (a+k),oX ((J99 x m).getD 0+k)]
  by_cases c1:(Option.getD (J99 x m) (0:Int))=0
  ·rw[J8w c1]
   by_cases c2:(30:Int)<=((List.length m:Nat):Int)
   ·rw[J8w c2];exact hno 7 (by decide)
   ·rw[J90 c2];exact⟨_,_,_,_,_,rfl,hok,λ_=>rfl,λh=>absurd rfl h⟩
  ·rw[J90 c1];exact⟨_,_,_,_,_,rfl,hok,λ_=>rfl,λh=>absurd rfl h⟩
 unfold J5c
 rw[hmay,J8f]
 cases may with
 |false=>exact hno 1 (by decide)
 | true=>
  obtain⟨n1,n2⟩:=hn rfl
  cases b with
  |true=>exact hno 10 (by decide)
  | false=>
   rw[J8y]
   by_cases ha:0<a
   ·rw[J8w ha,Jxi h,J8f]
    by_cases hz:s+p=0
    ·rw[J8w hz];exact hno 10 (by decide)
    rw[J90 hz,J8f,J8i hz]
    obtain⟨q0,q1⟩:=Jjr (x:=n) (by omega) n2 a0 a1
    obtain⟨q2,q3⟩:=Jhz q0 q1 (y:=s+p) (by omega)
    rw[oX (n*a),oX (Int.tdiv (n*a) (s+p))]
    generalize Int.tdiv (n*a) (s+p)=k at q2 q3
    by_cases c1:k=0
    ·rw[J8w c1];exact hno 11 (by decide)
    rw[J90 c1,oX (1073741824 - a)]
    by_cases c2:1073741824 - a<k
    ·rw[J8w c2];exact hno 11 (by decide)
    rw[J90 c2,J8f,oX (1073741824 - (s+p))]
    by_cases c3:1073741824 - (s+p)<n
    ·rw[J8w c3];exact hno 11 (by decide)
    rw[J90 c3]
    exact last k q2 (by omega) n1 (by omega)
   ·rw[J90 ha]
    by_cases c1:n=0
    ·rw[J8w c1];exact hno 11 (by decide)
    rw[J90 c1,oX (1073741824 - a)]
    by_cases c2:1073741824 - a<n
    ·rw[J8w c2];exact hno 11 (by decide)
    rw[J90 c2,Jxi h,J8f,oX (1073741824 - (s+p))]
    by_cases c3:1073741824 - (s+p)<n
    ·rw[J8w c3];exact hno 11 (by decide)
    rw[J90 c3]
    exact last n (by omega) (by omega) n1 (by omega)
theorem K5u(h:Jc6 s p a m)(x:List UInt8)(n:Int)(b:Bool)(u:Unit):
  ∃k e p' a' m',J4y x n s p a b u m=some (k,e,p',a',m')/\Jc6 s p' a' m'/\(e=0->p'=p - k/\0<=k/\k<=p)/\(e≠0->p'=p):=by
 obtain⟨may,hmay,hn⟩:=K60 x n
 have s0:=h.s0;have p0:=h.p0;have tp:=h.top;have a0:=h.a0;have a1:=h.a1
 have hno:∀(e:Int),e≠0->∃k e' p' a' m',some ((0:Int),e,p,a,m)=some (k,e',p',a',m')/\Jc6 s p' a' m'/\(e'=0->p'=p - k/\0<=k/\k<=p)/\(e'≠0->p'=p):=
  λe he=>⟨_,_,_,_,_,rfl,h,λh=>absurd h he,λ_=>rfl⟩
 unfold J4y
 rw[hmay,J8f]
 cases may with
 |false=>exact hno 1 (by decide)
 | true=>
  obtain⟨n1,n2⟩:=hn rfl
  obtain⟨g0,g1⟩:=Jp4 x h.non
  rw[h.sum]at g1
  cases b with
  |true=>exact hno 10 (by decide)
  | false=>
   rw[J8y]
   by_cases c1:(J99 x m).getD 0=0
   ·rw[J8w c1];exact hno 3 (by decide)
   rw[J90 c1]
   by_cases c2:(J99 x m).getD 0<n
   ·rw[J8w c2];exact hno 11 (by decide)
   rw[J90 c2,Jxi h,J8f,oN]
   obtain⟨q0,q1⟩:=Jjr (x:=n) (y:=s+p) (by omega) n2 (by omega) tp
   obtain⟨q2,q3⟩:=Jhz q0 q1 (y:=a) a0
   rw[oX (n*(s+p)),oX (Int.tdiv (n*(s+p)) a)]
   generalize Int.tdiv (n*(s+p)) a=k at q2 q3
   by_cases c3:p<k
   ·rw[J8w c3];exact hno 11 (by decide)
   rw[J90 c3,oX (p - k),oX (a - n),oX ((J99 x m).getD 0 - n)]
   have hput:=Jp6 x ((J99 x m).getD 0 - n) (by omega) h.non
   have hs:Jxz (Jaj x ((J99 x m).getD 0 - n) m)=a - n:=by rw[hput.2,h.sum];omega
   by_cases c4:n=(J99 x m).getD 0
   ·rw[J8w c4]
    have hg:(J99 x (Jaj x ((J99 x m).getD 0 - n) m)).getD 0=0:=by
     have:=get_put0 x ((J99 x m).getD 0 - n) m
     rw[this];simp only[Option.getD_some];omega
    have hcut:=Jy2 x hput.1
    exact⟨_,_,_,_,_,rfl,⟨s0,by omega,by omega,by omega,by omega,by rw[hcut.2,hs,hg];omega,hcut.1⟩,λ_=>⟨rfl,q2,by omega⟩,λh=>absurd rfl h⟩
   ·rw[J90 c4]
    exact⟨_,_,_,_,_,rfl,⟨s0,by omega,by omega,by omega,by omega,hs,hput.1⟩,λ_=>⟨rfl,q2,by omega⟩,λh=>absurd rfl h⟩
where
 get_put0 (x:List UInt8) (y:Int):∀m:Um,J99 x (Jaj x y m)=some y
  |[]=>by simp[Jaj,J99]
  |p::r=>by
   unfold Jaj
   by_cases e:x=p.1
   ·rw[decide_eq_true e,cond_true,J99,decide_eq_true e,cond_true]
   ·rw[decide_eq_false e,cond_false,J99,decide_eq_false e,cond_false];exact get_put0 x y r
theorem K9d(h:Jc6 s p a m)(t:Int)(h0:0<=t)(h1:t<=1073741824 - p) b u:
  J4l t s p a b u m=some (0,t,false)/\Jc6 t p a m:=by
 have p0:=h.p0
 unfold J4l
 rw[oF,oW,oF]
 exact⟨rfl,h0,h.p0,by omega,h.a0,h.a1,h.sum,h.non⟩
section
variable {s p a : Int} {m : Um} (h : Jc6 s p a m)
include h
theorem Ke3 x (hk:0<=k) (hn:0<=n) (h1:a+k<=1073741824) (h2:s+p+n<=1073741824):Jc6 s (w64 (p+n)) (w64 (a+k)) (Jaj x (w64 ((J99 x m).getD 0+k)) m):=by
 obtain⟨g1,g2⟩:=Jp4 x h.non
 have:=h.s0;have:=h.p0;have e:=h.sum
 rw[oW,oW,oW]
 obtain⟨u1,u2⟩:=Jp6 x ((J99 x m).getD 0+k) (by omega) h.non
 exact⟨h.s0,by omega,by omega,by omega,by omega,by omega,u1⟩
theorem Ka7 x (n:Int) b:Ok (J0p x n s p a (b,()) m) (λr=>Jc6 r.2.2.1 r.2.2.2.1 r.2.2.2.2.1 r.2.2.2.2.2.2):=by
 have s0:=h.s0;have p0:=h.p0;have t0:=h.top;have a0:=h.a0;have a1:=h.a1
 have e:=oX (s+p)
 simp only[J0p,J0p_1,wp,e]
 by_cases c:1<=n/\n<=1073741824
 ·obtain⟨m1,m2⟩:=Jjr (by omega) c.2 a0 a1
  have e1:=oX (n*a)
  obtain⟨d1,d2⟩:=Jhz (y:=s+p) m1 m2 (by omega)
  have e2:=oX (Int.tdiv (n*a) (s+p))
  have e3:=oX (a+Int.tdiv (n*a) (s+p))
  have e4:=oX (s+p+n)
  simp only[e1,e2]
  repeat' first|exact h|omega|intro _|with_reducible apply And.intro|exact Ke3 h x (by omega) (by omega) (by omega) (by omega)
 ·repeat' first|exact h|omega|intro _|with_reducible apply And.intro
theorem K1r x (n:Int) b:Ok (J2s x n s p a (b,()) m) (λr=>Jc6 s r.2.2.1 r.2.2.2.1 r.2.2.2.2):=by
 have s0:=h.s0;have p0:=h.p0;have t0:=h.top;have a1:=h.a1;have sm:=h.sum
 obtain⟨g1,g2⟩:=Jp4 x h.non
 have e:=oX (s+p)
 simp only[J2s,wp,e]
 by_cases c:1<=n/\n<=(J99 x m).getD 0
 ·obtain⟨m1,m2⟩:=Jjr (x:=n) (y:=s+p) (by omega) (by omega) (by omega) t0
  have e1:=oX (n*(s+p))
  obtain⟨d1,d2⟩:=Jhz (y:=a) m1 m2 (by omega)
  have e2:=oX (Int.tdiv (n*(s+p)) a)
  have e3:=oX ((J99 x m).getD 0 - n)
  have e4:=oX (a - n)
  obtain⟨u1,u2⟩:=Jp6 x ((J99 x m).getD 0 - n) (by omega) h.non
  obtain⟨v1,v2⟩:=Jy2 x u1
  simp only[e1,e2,e3,e4]
  repeat' first|exact h|omega|intro _|with_reducible apply And.intro
  all_goals have e5:=oX (p - Int.tdiv (n*(s+p)) a)
  ·exact⟨s0,by omega,by omega,by omega,by omega,by omega,v1⟩
  ·exact⟨s0,by omega,by omega,by omega,by omega,by omega,u1⟩
 ·repeat' first|exact h|omega|intro _|with_reducible apply And.intro
end
abbrev K7c:=Int×Int×List Pr×Unit
def CsT(l:List K7c):Prop:=l.length<=1000/\∀k∈l,Jfk k.2.2.1
theorem Kdc(h:CsT l)(i:Nat):Jfk (l.getD i ((0:Int),(0:Int),([]:List Pr),())).2.2.1:=by
 rw[List.getD_eq_getElem?_getD]
 cases e:l[i]? with
 |none=>exact⟨by simp,by simp⟩
 |some x=>exact h.2 x (List.mem_of_getElem? e)
theorem K31(hc:CsT calls)(hr:Jfk rows)(hL:Jc6 s p a m)(hb:b<=1000)(hg:RgT b reg) h mb cli res wh hh:
  Ok (J01 calls h rows mb () cli reg res wh s p a hh m) (λ(_,rows',_,_,cli',r1,r2,_,res',wh',s',p',a',_,m',es,_)=>Jfk rows'/\cli'=cli/\res'=res/\wh'=wh/\Jc6 s' p' a' m'/\RgT b (r1,r2,es,())):=by
 have hl:=hc.1
 simp only[J01,wp]
 refine(Jeg (Q:=λo:List K7c×Int×List Pr×Int×Unit×Cli×RReg×List (Int×K7c)×List (Int×Int)×Int×Int×Int×(Bool×Unit)×Um=>Jfk o.2.2.1/\o.2.2.2.2.2.1=cli/\o.2.2.2.2.2.2.1=reg/\o.2.2.2.2.2.2.2.1=res/\o.2.2.2.2.2.2.2.2.1=wh/\Jc6 o.2.2.2.2.2.2.2.2.2.1 o.2.2.2.2.2.2.2.2.2.2.1 o.2.2.2.2.2.2.2.2.2.2.2.1 o.2.2.2.2.2.2.2.2.2.2.2.2.2)
  (λi:Int×Int×List Pr×Int×Int×Bool×Unit=>0<=i.1/\i.1<=calls.length/\Jfk i.2.2.1/\Jc6 i.2.2.2.2.1 p a m) (λi=>calls.length - i.1) ⟨by simp,by simp,hr,hL⟩ λi hi=> ?_).imp λo ho=> ?_
 ·obtain⟨i1,i2,i3,i4⟩:=hi
  have e1:=oX (i.1+1)
  have p0:=i4.p0;have t0:=i4.top;have s0:=i4.s0
  have e2:=oX (1073741824 - p)
  have g:=Kdc hc i.1.toNat
  have bk:=Jmx (by have:=g.1;omega) g.2
  simp only[J01_1_step,wp,e1,e2]
  repeat' first|trivial|omega|exact i3|exact i4|exact g|intro _|exact⟨i3,rfl,rfl,rfl,rfl,i4⟩|refine bk.imp λu hu=> ?_|with_reducible apply And.intro
  all_goals (rename_i q1 q2;have:=hu q1;exact⟨this.1,i4.p0,by omega,i4.a0,i4.a1,i4.sum,i4.non⟩)
 ·obtain⟨o1,o2,o3,o4,o5,o6⟩:=ho
  simp only[o3]
  exact(Kft hb hg).imp λu hu=>⟨o1,o2,o4,o5,o6,hu⟩
theorem Jox(hl:l.length<=100000):Ok (J0b l) (λr=>r=true->Jfk l):=by
 simp only[J0b,wp]
 refine(Jeg (Q:=λr:Bool⊕List Pr=>match r with| .inl b=>b=false| .inr x=>x=l/\∀y∈l,PrT y) (λi:Int=>0<=i/\i<=l.length/\∀j:Nat,(j:Int)<i->PrT (l.getD j zPr)) (λi=>l.length - i) ⟨by simp,by simp,λj hj=>by omega⟩ λi hi=> ?_).imp λr h=> ?_
 ·obtain⟨h0,h1,h2⟩:=hi
  have e1:=oX (i+1)
  have e2:=oX (i - 1)
  simp only[J0b_1_step,wp,e1]
  refine⟨λc=>⟨by omega,Ke.imp λb hb=>⟨λ_=>by trivial,λq=> ?_⟩⟩,λc=>⟨by trivial,λy hy=> ?_⟩⟩
  ·have hp:=hb q
   have nx:∀j:Nat,(j:Int)<i+1->PrT (l.getD j zPr):=λj hj=>by
    by_cases e:(j:Int)=i
    ·obtain rfl:j=i.toNat:=by omega
     exact⟨Nat.le_trans hp.1 (by omega),Nat.le_trans hp.2 (by omega)⟩
    ·exact h2 j (by omega)
   repeat' first|trivial|omega|exact nx|intro _|with_reducible apply And.intro
  ·obtain⟨j,hj,rfl⟩:=List.getElem_of_mem hy
   have:=h2 j (by omega)
   rwa[List.getD_eq_getElem?_getD,List.getElem?_eq_getElem hj]at this
 ·cases r with
  |inl b=>exact Jkk.2 (by simp[show b=false from h])
  |inr x=>
   obtain⟨rfl,h⟩:=h
   exact Jkk.2 λc=>⟨by have:=of_decide_eq_true c;omega,h⟩
def PfT(p:Prf):Prop:=p.2.2.1.length<=100000/\∀x∈p.2.2.2.1,x.length<=1000/\∀y∈x,y.length=32
theorem Jv1(n:Int)(hx:x.length<=1000):Ok (J2f n x) (λ_=>True):=by
 have:=J9o n
 simp only[J2f,Jex,J8f]
 rw[Ja3 _ _ (by simp;omega) (by simp)]
 exact Jkk.2 (by trivial)
theorem Ku(hp:PfT p) r:Ok (J0z r p) (λb=>b=true->(p.1=0\/0<p.2.2.1.length)/\Jfk p.2.2.1):=by
 have hl:=hp.1
 simp only[J0z,wp]
 have t2:Ok (Jb 2 ([]:List (List UInt8))) (λu=>u.length<=1000):=by
  rw[Ja3 _ _ (by simp) (by simp)];exact Jkk.2 (by rw[Ja8];omega)
 refine⟨λ_=>by simp,λc0=>⟨λ_=>by simp,λc1=>⟨λ_=>by simp,λc2=>(Jox hl).imp λb hb=>⟨λ_=>by simp,λq=>⟨λ_=>by simp,λ_=>⟨λ_=>by simp,λ_=>⟨λz=>⟨λ_=>t2.imp λu hu=>(Jv1 _ hu).imp λ_ _=>λ_=>⟨.inl z,hb q⟩,λ_=>by simp⟩,λz=> ?_⟩⟩⟩⟩⟩⟩⟩
 have hr:=hb q
 refine(Jeg (Q:=λo:Bool⊕Prf=>match o with| .inl b=>b=false| .inr x=>x=p) (λi:Int=>0<=i/\i<=p.2.2.1.length) (λi=>p.2.2.1.length - i) (by simp) λi hi=> ?_).imp λo ho=> ?_
 ·have e1:=oX (i+1)
  simp only[J0z_1_step,wp,e1]
  refine⟨λc=>⟨by omega, ?_⟩,λ_=>by trivial⟩
  have h1:∀d,PrT (p.2.2.1.getD i.toNat d):=λd=>by
   rw[List.getD_eq_getElem?_getD,List.getElem?_eq_getElem (by omega)];exact hr.2 _ (List.getElem_mem ..)
  have h2:=hp.2 (p.2.2.2.1.getD i.toNat []) (by
   rw[List.getD_eq_getElem?_getD,List.getElem?_eq_getElem (by omega)];exact List.getElem_mem ..)
  have h3:=h1 (([]:List UInt8),([]:List UInt8),())
  have h4:=Jjn (p:=p.2.2.1.getD i.toNat (([]:List UInt8),([]:List UInt8),())) ⟨by have:=h3.1;omega,by have:=h3.2;omega⟩
  refine Ok.eq (Jsi _ ⟨by have:=h3.1;omega,by have:=h3.2;omega⟩) ⟨by omega, ?_⟩
  obtain⟨x,hx,_,h5⟩:=Kc5 (Jh3 (p.2.2.1.getD i.toNat (([]:List UInt8),([]:List UInt8),()))) (by omega) (w64 (p.2.1+i)) p.1 (by omega) (p.2.2.2.1.getD i.toNat []) h2.2 (by omega)
  exact Ok.eq hx ⟨λ_=>by trivial,λ_=>(Jv1 _ (by dsimp only;omega)).imp λ_ _=>⟨λ_=>by trivial,λ_=>by omega⟩⟩
 ·cases o with
  |inl b=>exact Jkk.2 (by simp[show b=false from ho])
  |inr x=>
   obtain rfl:x=p:=ho
   exact Jkk.2 λc=>⟨.inr (by have:=of_decide_eq_true c;omega),hr⟩
theorem K8q(hp:PfT p) r x:Ok (J6d r x p) (λ_=>True):=by
 simp only[J6d,wp]
 exact(Ku hp r).imp λb hb=>⟨λ_=>⟨λc=>⟨⟨by omega,by omega⟩,by trivial⟩,λ_=>by trivial⟩,λ_=>by trivial⟩
theorem Jvt(hp:PfT p) r a b:Ok (J0a r a b p) (λ_=>True):=by
 have lp:p.2.2.1.length<=30->Ok (J0a_1 a b p.2.2.1 (p.2.2.1.length:Int) 0 []) (λ_=>True):=λhl=>by
  refine Jeg (λi:Int×List Pr=>0<=i.1/\i.1<=p.2.2.1.length/\i.2.length<=i.1) (λi=>p.2.2.1.length - i.1) (by simp) λi hi=> ?_
  have e1:=oX (i.1+1)
  simp only[J0a_1_step,wp,List.length_append,List.length_cons,List.length_nil]
  repeat' first|trivial|omega|intro _|with_reducible apply And.intro
 simp only[J0a,wp]
 refine(Ku hp r).imp λq hq=>⟨λ_=>by trivial,λc=>⟨λ_=>by trivial,λz=> ?_⟩⟩
 obtain⟨h1,h2⟩:=hq c
 have hl:=h2.1
 have e2:=oX ((p.2.2.1.length:Int) - 1)
 repeat' first|omega|exact lp hl|exact True.intro|intro _|with_reducible apply And.intro
abbrev K0a:=Int×Int×List Pr×Prf×Unit
def RsT(x:K0a):Prop:=x.2.2.1.length<=100000/\PfT x.2.2.2.1
end Go.Ax.V
