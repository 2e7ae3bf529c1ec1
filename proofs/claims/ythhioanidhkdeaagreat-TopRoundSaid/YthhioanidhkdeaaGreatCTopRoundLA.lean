/-
  Rounded against the user: between two backings the rate never falls, all shares are the users', nobody redeems more than is pending.
-/
import Derived.Test.YthhioanidhkdeaaGreatCTopRoundP
namespace Go.Ax.V
open Go.Ax
set_option linter.unusedVariables false
set_option linter.unusedSimpArgs false
set_option autoImplicit true
set_option relaxedAutoImplicit true
def J9m(f:Nat->τ->τ):Nat->Nat->τ->τ
 |_,0,t=>t
 |i,k+1,t=>J9m f (i+1) k (f i t)
theorem J8p {step : σ → Option (σ⊕ρ)} (st:Nat->τ->σ) (f:Nat->τ->τ) (g:τ->ρ) (n:Nat) (I:Nat->τ->Prop)
    (h1:∀i t,i<n->I i t->step (st i t)=some (.inl (st (i+1) (f i t)))/\I (i+1) (f i t))
    (h2:∀t,I n t->step (st n t)=some (.inr (g t))):∀(k i:Nat) (t:τ),i+k=n->I i t->loop step (st i t)=some (g (J9m f i k t))
  | 0, i, t, e, h => by have:i=n:=by omega
                        subst this;exact J96 (h2 t h)
  |k+1,i,t,e,h=>by rw[J9l (h1 i t (by omega) h).1];exact J8p st f g n I h1 h2 k (i+1) (f i t) (by omega) (h1 i t (by omega) h).2
theorem Nat.find_of{p:Nat->Prop}(h:∃n,p n):∃n,p n/\∀m,m<n->¬p m:=by obtain⟨n,hn⟩:=h;induction n using Nat.strongRecOn with|_ n ih=>grind
def scan(bad:Nat->Option ρ)(r0:ρ):Nat->Nat->ρ
 |_,0=>r0
 |i,k+1=>match bad i with|some r=>r|none=>scan bad r0 (i+1) k
theorem Jfc:∀(k i:Nat),(∀j,i<=j->j<i+k->bad j=none)->scan bad r0 i k=r0
 |0,i,_=>rfl
 |k+1,i,h=>by rw[scan,h i (Nat.le_refl _) (by omega)];exact Jfc k (i+1) λj h1 h2=>h j (by omega) (by omega)
theorem Je0:∀(k i j:Nat),i<=j->j<i+k->(∀j',i<=j'->j'<j->bad j'=none)->bad j=some r->scan bad r0 i k=r
 |0,i,j,h1,h2,_,_=>by omega
 |k+1,i,j,h1,h2,h3,h4=>by
  rw[scan];by_cases e:i=j;·subst e;rw[h4]
  rw[h3 i (Nat.le_refl _) (by omega)];exact Je0 k (i+1) j (by omega) (by omega) (λj' g1 g2=>h3 j' (by omega) g2) h4
theorem Jc3 {step :σ->Option (σ⊕ρ)} (st:Nat->σ) (bad:Nat->Option ρ) (r0:ρ) (n:Nat) (h1:∀i,i<n->bad i=none->step (st i)=some (.inl (st (i+1))))
    (h2:∀i r,i<n->bad i=some r->step (st i)=some (.inr r)) (h3:step (st n)=some (.inr r0)):∀(k i:Nat),i+k=n->loop step (st i)=some (scan bad r0 i k)
  | 0, i, e => by have:i=n:=by omega
                  subst this;exact J96 h3
  |k+1,i,e=>by
   rw[scan];split;·rename_i r hr;exact J96 (h2 i r (by omega) hr)
   rename_i hn;rw[J9l (h1 i (by omega) hn)];exact Jc3 st bad r0 n h1 h2 h3 k (i+1) (by omega)
theorem J8a:J89 (some a) k=k a:=rfl
theorem J8y[Decidable p](h:p):J8b (decide p) x y=x:=by rw[decide_eq_true h];rfl
theorem J93[Decidable p](h:¬p):J8b (decide p) x y=y:=by rw[decide_eq_false h];rfl
theorem oW{n:Int}(h: -9223372036854775808<=n:=by omega)(k:n<=9223372036854775807:=by omega):w64 n=n:=J9n h k
theorem oX(n:Int)(h: -9223372036854775808<=n:=by omega)(k:n<=9223372036854775807:=by omega):w64 n=n:=J9n h k
theorem oN{α:Type}{c:Prop}[Decidable c]{x:Option α}(h:c:=by omega):need c x=x:=J8d h
theorem oT{α:Type}{c:Prop}[Decidable c]{x y:Option α}(h:c:=by omega):J8b (decide c) x y=x:=J8y h
theorem oF{α:Type}{c:Prop}[Decidable c]{x y:Option α}(h:¬c:=by omega):J8b (decide c) x y=y:=J93 h
theorem oI{α:Sort _}{c:Prop}[Decidable c]{x y:α}(h:c:=by omega):ite c x y=x:=if_pos h
theorem oJ{α:Sort _}{c:Prop}[Decidable c]{x y:α}(h:¬c:=by omega):ite c x y=y:=if_neg h
theorem Jd2[Decidable p](h:p):J8b (!decide p) x y=y:=by rw[decide_eq_true h];rfl
theorem Jdt[Decidable p](h:¬p):J8b (!decide p) x y=x:=by rw[decide_eq_false h];rfl
theorem Jbt:J8b true x y=x:=rfl
theorem J8t:J8b false x y=y:=rfl
theorem Jm4:J8b b x y=if b then x else y:=by cases b<;>rfl
theorem Jgr(l:List α)(u:Int):J9v l 0 u=l.take u.toNat:=rfl
theorem Jbn(l:List α)(u:Int):J9v l u (l.length:Int)=l.drop u.toNat:=by unfold J9v;rw[Int.toNat_natCast,List.take_of_length_le (Nat.le_refl _)]
theorem K89(t:Ty)(h:t.comp=true)(x:t.den):Ty.beq t x x=true:=(Ty.beq_iff t h x x).2 rfl
theorem Jj4 x:Ty.beq (.arr 32 (.int .u8)) x x=true:=K89 (.arr 32 (.int .u8)) rfl x
def Ok{α:Type}(x:Option α)(Q:α->Prop):Prop:=∃a,x=some a/\Q a
section
variable {α β σ ρ : Type} {x y : Option α} {Q R : α → Prop} {a : α}
theorem Jkh:Ok (some a) Q↔Q a:=⟨λ⟨_,h,q⟩=>by cases h;exact q,λq=>⟨_,rfl,q⟩⟩
theorem ok_0:Ok (none:Option α) Q↔False:=⟨λ⟨_,h,_⟩=>(nomatch h),False.elim⟩
theorem ok_b{k:α->Option β}{Q:β->Prop}:Ok (J89 x k) Q↔Ok x λa=>Ok (k a) Q:=by cases x with|none=>exact⟨λ⟨_,h,_⟩=>(nomatch h),λ⟨_,h,_⟩=>(nomatch h)⟩|some a=>exact(Jkh (Q:=λa=>Ok (k a) Q)).symm
theorem ok_f{b:Bool}:Ok (J8b b x y) Q↔(b=true->Ok x Q)/\(b=false->Ok y Q):=by cases b<;>simp[J8b]
theorem ok_n{c:Prop}[Decidable c]:Ok (need c x) Q↔c/\Ok x Q:=by
 unfold need;by_cases h:c;·simp[h]
 simp[h,ok_0]
theorem Ok.imp(h:Ok x R)(k:∀a,R a->Q a):Ok x Q:=by obtain⟨a,e,q⟩:=h;exact⟨a,e,k a q⟩
theorem Ok.eq(e:x=some a)(q:Q a):Ok x Q:=⟨a,e,q⟩
def Rd(I:σ->Prop)(m:σ->Int)(Q:ρ->Prop)(s:σ):σ⊕ρ->Prop
 | .inl t=>I t/\0<=m t/\m t<m s
 | .inr r=>Q r
theorem Jee{step:σ->Option (σ⊕ρ)}{Q:ρ->Prop}(I:σ->Prop)(m:σ->Int){s:σ}(hi:I s)(h:∀s,I s->Ok (step s) (Rd I m Q s)):Ok (loop step s) Q:=by
 suffices H:∀n s,(m s).toNat<n->I s->Ok (loop step s) Q from H _ s (Nat.lt_succ_self _) hi
 intro n;induction n with
 |zero=>intro s h1;omega
 |succ n ih=>intro s h1 hi;obtain⟨r,e,q⟩:=h s hi;cases r with|inl t=>rw[J9l e];exact ih t (by have:=q.2;omega) q.1|inr r=>exact⟨r,J96 e,q⟩
end
theorem wp:(∀{α:Type} {Q:α->Prop} {a:α},Ok (some a) Q↔Q a)/\(∀{α:Type} {Q:α->Prop},Ok none Q↔False)/\(∀{α β:Type} {x:Option α} {k:α->Option β} {Q:β->Prop},Ok (J89 x k) Q↔Ok x λa=>Ok (k a) Q) /\(∀{α:Type} {Q:α->Prop} {x y:Option α} {b:Bool},Ok (J8b b x y) Q↔(b=true->Ok x Q)/\(b=false->Ok y Q))/\(∀{α:Type} {Q:α->Prop} {x:Option α} {c:Prop} [Decidable c],Ok (need c x) Q↔c/\Ok x Q) /\(∀{σ ρ:Type} {I:σ->Prop} {m:σ->Int} {Q:ρ->Prop} {s t:σ},Rd I m Q s (.inl t)↔I t/\0<=m t/\m t<m s)/\(∀{σ ρ:Type} {I:σ->Prop} {m:σ->Int} {Q:ρ->Prop} {s:σ} {r:ρ},Rd I m Q s (.inr r)↔Q r) /\(∀{p:Prop} [Decidable p],(decide p=true)↔p)/\(∀{p:Prop} [Decidable p],(decide p=false)↔¬p)/\(∀{b:Bool},((!b)=true)↔b=false)/\(∀{b:Bool},((!b)=false)↔b=true):=⟨Jkh,ok_0,ok_b,ok_f,ok_n,.rfl,.rfl,decide_eq_true_iff,decide_eq_false_iff_not,by simp,by simp⟩
theorem Jjp(a:Nat):(BitVec.ofInt 64 (a:Int)).toNat=a%18446744073709551616:=by rw[BitVec.toNat_ofInt];omega
theorem Jqy(a b:Nat)(ha:a<9223372036854775808)(hb:b<9223372036854775808):Jp7 (a:Int) (b:Int)=((a&&& b:Nat):Int):=by unfold Jp7;have hle:a&&& b<=a:=Nat.and_le_left;rw[BitVec.toNat_and,Jjp,Jjp,Nat.mod_eq_of_lt (by omega),Nat.mod_eq_of_lt (by omega)];exact oW
theorem Jwa(a b:Nat)(h:(a|||b)<9223372036854775808):bor (a:Int) (b:Int)=((a|||b:Nat):Int):=by
 unfold bor;have h1:a<=a|||b:=Nat.left_le_or
 have h2:b<=a|||b:=Nat.right_le_or
 rw[BitVec.toNat_or,Jjp,Jjp,Nat.mod_eq_of_lt (by omega),Nat.mod_eq_of_lt (by omega)];exact oW
theorem K2v(a:Nat)(ha:a<9223372036854775808):Jp7 (a:Int) 127=((a%128:Nat):Int):=by rw[show(127:Int)=((127:Nat):Int)from rfl,Jqy a 127 ha (by omega),show(127:Nat)=2^7 - 1 from rfl,Nat.and_two_pow_sub_one_eq_mod]
theorem K5g a c k (h:a<2^k):a|||(c*2^k)=a+c*2^k:=by rw[Nat.or_comm,<-Nat.shiftLeft_eq,<-Nat.shiftLeft_add_eq_or_of_lt h,Nat.add_comm]
theorem Kbm(a:Nat)(h:a<128):bor (a:Int) 128=((a+128:Nat):Int):=by have e:=K5g a 1 7 h;rw[show(128:Int)=((128:Nat):Int)from rfl,Jwa a 128 (by simp only[Nat.one_mul]at e;rw[e];omega)];rw[e]
theorem Jzi(a k:Nat)(hk:k<=64):ishr (a:Int) k=((a / 2^k:Nat):Int):=by unfold ishr;rw[Nat.min_eq_left hk,Int.fdiv_eq_ediv_of_nonneg _ (by exact_mod_cast Nat.zero_le _)];exact_mod_cast rfl
theorem K9h(a k:Nat)(hk:k<=64)(h:a*2^k<9223372036854775808):Jx5 (a:Int) k=((a*2^k:Nat):Int):=by
 unfold Jx5;rw[Nat.min_eq_left hk];have e:(a:Int)*2^k=((a*2^k:Nat):Int):=by exact_mod_cast rfl
 exact oW
theorem u8_and127(b:UInt8):(b&&& 127).toNat=b.toNat%128:=by rw[UInt8.toNat_and,show(127:UInt8).toNat=2^7 - 1 from rfl,Nat.and_two_pow_sub_one_eq_mod]
theorem Jc8(a:Nat):UInt8.ofNat (Int.toNat ((a:Int)%256))=UInt8.ofNat a:=by rw[show Int.toNat ((a:Int)%256)=a%256 from by omega];apply UInt8.toNat_inj.1;simp
def Kc:Nat->Nat->List UInt8
 |0,n=>[UInt8.ofNat n]
 |f+1,n=>if n<128 then[UInt8.ofNat n]else UInt8.ofNat (n%128+128)::Kc f (n / 128)
def Jep(n:Int):List UInt8:=if 0<=n/\n<=1099511627775 then Kc 6 n.toNat else[]
theorem Jsc:∀(f n:Nat),(Kc f n).length<=f+1
 |0,_=>by simp[Kc]
 |f+1,n=>by
  rw[Kc];split;·simp
  have:=Jsc f (n / 128);simp;omega
theorem J9k(n:Int):(Jep n).length<=7:=by
 unfold Jep;split;·exact Jsc 6 _
 simp
theorem Jzx:∀(f n:Nat) (acc:List UInt8),n<128^(f+1)->n<9223372036854775808->acc.length<=1000 - f->f<=10->∃(m:Nat) (l:List UInt8),J32_1 (n:Int) acc=some ((m:Int),acc++l)/\l++[UInt8.ofNat m]=Kc f n/\(acc++l).length<=1000
 |0,n,acc,h,h2,ha,_=>by refine⟨n,[], ?_,rfl,by simp;omega⟩;rw[List.append_nil];unfold J32_1;refine J96 ?_;unfold J32_1_step;rw[oF]
 |f+1,n,acc,h,h2,ha,hf=>by
  by_cases hn:n<128;·refine⟨n,[], ?_,by rw[Kc,if_pos hn];rfl,by simp;omega⟩;rw[List.append_nil];unfold J32_1;refine J96 ?_;unfold J32_1_step;rw[oF]
  have hs:J32_1_step (n:Int) acc=some (.inl (((n / 128:Nat):Int),acc++[UInt8.ofNat (n%128+128)])):=(by unfold J32_1_step;rw[oT,J8d (by simp;omega),K2v n (by omega),Kbm _ (by omega),Jc8,show Int.toNat 7=7 from rfl,Jzi n 7 (by omega)]);have hd:n / 128<128^(f+1):=(by omega);obtain⟨m,l,h4,h5,h6⟩:=Jzx f (n / 128) (acc++[UInt8.ofNat (n%128+128)]) hd (by omega) (by simp;omega) (by omega);refine⟨m,UInt8.ofNat (n%128+128)::l, ?_, ?_, ?_⟩;·unfold J32_1 at h4⊢;rw[J9l (s':=(((n / 128:Nat):Int),acc++[UInt8.ofNat (n%128+128)])) hs,h4];simp
  ·rw[Kc,if_neg hn,<-h5];rfl
  simpa using h6
theorem K5e(n:Int):J32 n=some (Jep n):=by
 unfold J32 Jep;by_cases h0:n<0;·rw[J8y h0,oJ]
 rw[J93 h0];by_cases h1:1099511627775<n;·rw[J8y h1,oJ]
 rw[J93 h1,oI];obtain⟨k,rfl⟩:=Int.eq_ofNat_of_zero_le (show 0<=n by omega);obtain⟨m,l,h2,h3,h4⟩:=Jzx 6 k [] (by omega) (by omega) (by simp) (by omega);rw[h2,J8a];simp only[List.nil_append]at h4⊢;rw[J8d (by simp;omega),Jc8,h3];rfl
def Jd9(l:List Int):List UInt8:=l.flatMap Jep
theorem Jsd:∀(l:List Int),(Jd9 l).length<=7*l.length
 |[]=>by simp[Jd9]
 |n::l=>by have:=Jsd l;have h:=J9k n;unfold Jd9 at this⊢;grind
theorem Jf0(f:α->List β)(l:List α)(z:α){i:Nat}(h:i<l.length):(l.take (i+1)).flatMap f=(l.take i).flatMap f++f (l.getD i z):=by rw[List.take_add_one];grind
theorem put_eq(l:List Int)(hl:l.length<=100000000):J18 l=some (Jd9 l):=by
 have main:J18_1 l (l.length:Int) 0 []=some (Jd9 l):=by
  have:=J8p (step:=λ(s:Int×List UInt8)=>J18_1_step l (l.length:Int) s.1 s.2) (λi (_:Unit)=>((i:Int),Jd9 (l.take i))) (λ_ _=>()) (λ_=>Jd9 l) l.length (λ_ _=>True) (λi w hi _=>⟨?_,trivial⟩) (λw _=> ?_) l.length 0 () (by omega) trivial;·exact this
  ·show J18_1_step l (l.length:Int) (i:Int) (Jd9 (l.take i))=_;unfold J18_1_step;have b:=Jsd (l.take i);have b2:=J9k (l.getD i 0);rw[List.length_take]at b;rw[oT,oN,K5e,J8a,Int.toNat_natCast,oN,oW];unfold Jd9;rw[Jf0 Jep l 0 hi];rfl
  unfold J18_1_step;rw[oF,List.take_of_length_le (Nat.le_refl _)]
 unfold J18;rw[main,J8a]
theorem Jx4(l:List (List UInt8))(hl:l.length<=1000000)(h:∀x∈l,x.length=32):J29 l=some l.flatten:=by
 have hlen:∀i,((l.take i).flatten).length<=32*l.length:=by
  intro i;have:∀(m:List (List UInt8)),(∀x∈m,x.length=32)->m.flatten.length=32*m.length:=by
   intro m;induction m with
   |nil=>intro _;rfl
   |cons a m ih=>intro hm;rw[List.flatten_cons,List.length_append,ih (λx hx=>hm x (List.mem_cons_of_mem _ hx)),hm a List.mem_cons_self,List.length_cons];omega
  grind
 have main:J29_1 l (l.length:Int) 0 []=some l.flatten:=by
  have:=J8p (step:=λ(s:Int×List UInt8)=>J29_1_step l (l.length:Int) s.1 s.2) (λi (_:Unit)=>((i:Int),(l.take i).flatten)) (λ_ _=>()) (λ_=>l.flatten) l.length (λ_ _=>True) (λi w hi _=>⟨?_,trivial⟩) (λw _=> ?_) l.length 0 () (by omega) trivial;·exact this
  ·show J29_1_step l (l.length:Int) (i:Int) (l.take i).flatten=_;unfold J29_1_step;have b:=hlen i;have hm:(l.getD i (List.replicate 32 0)).length=32:=h _ (by rw[List.getD_eq_getElem?_getD,List.getElem?_eq_getElem hi];exact List.getElem_mem _);have e:=Jf0 (λx:List UInt8=>x) l (List.replicate 32 0) hi;simp at e;rw[oT,oN,Int.toNat_natCast,oN,oW,e];rfl
  unfold J29_1_step;rw[oF,List.take_of_length_le (Nat.le_refl _)]
 unfold J29;rw[main,J8a]
abbrev Rdr:=List UInt8×Bool×Unit
def Kb3(n:Nat)(r:Rdr):List UInt8×Rdr:=if r.2.1 then([],(r.1,true,()))else if r.1.length<n then([],(r.1,true,()))else(r.1.take n,(r.1.drop n,false,()))
theorem K77(n:Nat)(hn:n<=1000) r:J1u (n:Int) r=some (Kb3 n r):=by
 obtain⟨l,b,u⟩:=r;unfold J1u Kb3;cases b with
 |true=>rfl
 |false=>
  simp only[J8t,Bool.false_eq_true,if_false];by_cases h:l.length<n;·rw[oT,if_pos h]
  rw[oF,if_neg h,oN,oN];have e1:J9v l 0 (n:Int)=l.take n:=(by rw[Jgr,Int.toNat_natCast]);have e2:J9v l (n:Int) (l.length:Int)=l.drop n:=(by rw[Jbn,Int.toNat_natCast]);rw[e1,e2]
def K1q:Nat->Nat->Nat->List UInt8->Int×Rdr
 |0,_,_,l=>(0,l,true,())
 |k+1,i,acc,[]=>(0,[],true,())
 |k+1,i,acc,b::l=>if b.toNat<128 then(if 1099511627775<acc+b.toNat*128^i\/(b=0/\0<i)then(0,l,true,())else(((acc+b.toNat*128^i:Nat):Int),l,false,()))else K1q k (i+1) (acc+(b.toNat%128)*128^i) l
def Jzu(r:Rdr):Int×Rdr:=if r.2.1 then(0,(r.1,true,()))else K1q 6 0 0 r.1
theorem Jzv:∀(k i acc:Nat) (l:List UInt8),i+k=6->acc<128^i->
  (match J6_1 (acc:Int) ((7*i:Nat):Int) (l,false,())with|some (.inl o)=>some (o.1,o.2)|some (.inr o)=>some ((0:Int),(o.1,true,()))|none=>none)=some (K1q k i acc l)
 |0,i,acc,l,hi,ha=>by have:i=6:=(by omega);subst this;have:J6_1 (acc:Int) ((7*6:Nat):Int) (l,false,())=some (.inr (l,false,())):=(by unfold J6_1;refine J96 ?_;show J6_1_step (acc:Int) ((7*6:Nat):Int) (l,false,())=_;unfold J6_1_step;rw[oF]);rw[this];rfl
 |k+1,i,acc,[],hi,ha=>by have:J6_1 (acc:Int) ((7*i:Nat):Int) ([],false,())=some (.inl (0,([],true,()))):=(by unfold J6_1;refine J96 ?_;show J6_1_step (acc:Int) ((7*i:Nat):Int) ([],false,())=_;unfold J6_1_step;rw[oT,show(1:Int)=((1:Nat):Int)from rfl,K77 1 (by omega),J8a];rfl);rw[this];rfl
 | k +1,i,acc,b::l,hi,ha=>by
  have hp:128^i=2^(7*i):=(by rw[Nat.pow_mul]);have hb:=b.toNat_lt;have hpi:128^i<=128^5:=Nat.pow_le_pow_right (by omega) (by omega);have hm:(b.toNat%128)*128^i<=127*128^i:=Nat.mul_le_mul_right _ (by omega);have e:bor (acc:Int) (Jx5 ((UInt8.toNat (b&&& 127):Nat):Int) (7*i))=((acc+(b.toNat%128)*128^i:Nat):Int):=(by rw[u8_and127,K9h _ _ (by omega) (by rw[<-hp];omega),hp];have ho:=K5g acc (b.toNat%128) (7*i) (by rw[<-hp];exact ha);rw[Jwa _ _ (by rw[ho,<-hp];omega),ho]);have ht:Kb3 1 (b::l,false,())=([b],(l,false,())):=(by unfold Kb3;rfl);have step:∀r,J6_1_step (acc:Int) ((7*i:Nat):Int) (b::l,false,())=some r↔(if b.toNat<128 then(if 1099511627775<acc+b.toNat*128^i then some (.inr (.inr (l,false,())))else if b=0 then(if 0<i then some (.inr (.inr (l,false,())))else some (.inr (.inl (((acc+b.toNat*128^i:Nat):Int),l,false,()))))else some (.inr (.inl (((acc+b.toNat*128^i:Nat):Int),l,false,()))))else some (.inl (((acc+(b.toNat%128)*128^i:Nat):Int),((7*(i+1):Nat):Int),(l,false,()))))=some r:=by
   intro r;unfold J6_1_step;rw[oT,show(1:Int)=((1:Nat):Int)from rfl,K77 1 (by omega),J8a,ht];simp only[List.length_cons,List.length_nil,Int.toNat_zero,List.getD_cons_zero,Int.toNat_natCast,e];rw[oF,oN,oN,oW];by_cases h1:b.toNat<128
   ·have hlt:b<128:=UInt8.lt_iff_toNat_lt.2 h1;rw[J8y hlt,if_pos h1,Nat.mod_eq_of_lt h1];by_cases h2:1099511627775<acc+b.toNat*128^i;·rw[oT,if_pos h2]
    rw[oF,if_neg h2];by_cases h3:b=0
    ·rw[J8y h3,if_pos h3];by_cases h4:0<i;·rw[oT,if_pos h4]
     rw[oF,if_neg h4]
    rw[J93 h3,if_neg h3]
   have hlt:¬b<128:=λh=>h1 (UInt8.lt_iff_toNat_lt.1 h);rw[J93 hlt,if_neg h1,show((7*i:Nat):Int)+7=((7*(i+1):Nat):Int)from by omega]
  rw[K1q];by_cases h1:b.toNat<128
  ·rw[if_pos h1];have go:∀r,(if 1099511627775<acc+b.toNat*128^i then some (.inr (.inr (l,false,())))else if b=0 then(if 0<i then some (.inr (.inr (l,false,())))else some (.inr (.inl (((acc+b.toNat*128^i:Nat):Int),l,false,()))))else some (.inr (.inl (((acc+b.toNat*128^i:Nat):Int),l,false,()))))=some (.inr r:(Int×Int×Rdr)⊕((Int×Rdr)⊕Rdr))-> J6_1 (acc:Int) ((7*i:Nat):Int) (b::l,false,())=some r:=(by intro r hr;unfold J6_1;refine J96 ?_;grind);by_cases h2:1099511627775<acc+b.toNat*128^i;·simp_all
   by_cases h3:b=0/\0<i;·simp_all
   rw[go (.inl (((acc+b.toNat*128^i:Nat):Int),l,false,())) (by
    rw[if_neg h2];by_cases h4:b=0;·grind
    rw[if_neg h4]),if_neg (λh=>h.elim h2 h3)]
  rw[if_neg h1,<-Jzv k (i+1) (acc+(b.toNat%128)*128^i) l (by omega) (by omega)];have hs:=(step _).2 (by rw[if_neg h1]);unfold J6_1;rw[J9l hs]
theorem number_eq r:J6 r=some (Jzu r):=by obtain⟨l,b,u⟩:=r;unfold J6 Jzu;cases b with|true=>have:J6_1 0 0 (l,true,())=some (.inl (0,(l,true,()))):=(by refine J96 ?_;rfl);rw[this];rfl|false=>have:=Jzv 6 0 0 l rfl (by decide);rw[if_neg (by simp),<-this];cases J6_1 0 0 (l,false,())with|none=>rfl|some o=>cases o<;>rfl
theorem Jqd(h:n<128):∀f,Kc f n=[UInt8.ofNat n]
 |0=>rfl
 |f+1=>by rw[Kc,if_pos h]
theorem Jzt:∀(f k i acc n:Nat) (rest:List UInt8),i+k=6->(0<i->1<=n)->acc+n*128^i<=1099511627775->acc<128^i->k<=f+1->(n<128->1<=k)->K1q k i acc (Kc f n++rest)=(((acc+n*128^i:Nat):Int),rest,false,())
 | f,k,i,acc,n,rest,hi,hn,hb,ha,hk,h1=>by
  by_cases hs:n<128
  ·rw[Jqd hs f];obtain⟨k,rfl⟩:∃k',k=k'+1:=⟨k - 1,by have:=h1 hs;omega⟩;show K1q (k+1) i acc (UInt8.ofNat n::rest)=_;have hb':(UInt8.ofNat n).toNat=n:=(by rw[UInt8.toNat_ofNat'];omega);rw[K1q,hb',if_pos hs,if_neg];rintro(h|⟨h,h0⟩);·omega
   have:=hn h0;rw[<-UInt8.toNat_inj,hb']at h;have:n=0:=h;omega
  have hi6:i<5:=by
   rcases Nat.lt_or_ge i 5 with h|h;·exact h
   have:128^5<=128^i:=Nat.pow_le_pow_right (by omega) h;have:128*128^i<=n*128^i:=Nat.mul_le_mul_right _ (by omega);omega
  obtain⟨k,rfl⟩:∃k',k=k'+1:=⟨k - 1,by omega⟩;obtain⟨f,rfl⟩:∃f',f=f'+1:=⟨f - 1,by omega⟩;rw[Kc,if_neg hs,List.cons_append];have hb':(UInt8.ofNat (n%128+128)).toNat=n%128+128:=(by rw[UInt8.toNat_ofNat'];omega);rw[K1q,hb',oJ,show(n%128+128)%128=n%128 from by omega];have he:acc+n%128*128^i+n / 128*128^(i+1)=acc+n*128^i:=(by have hn2:n*128^i=(n%128+128*(n / 128))*128^i:=(by congr 1;omega);grind);have hm:(n%128)*128^i<=127*128^i:=Nat.mul_le_mul_right _ (by omega);rw[Jzt f k (i+1) _ (n / 128) rest (by omega) (λ_=>by omega) (by rw[he];exact hb) (by omega) (by omega) (λ_=>by omega),he]
theorem K5c(n:Int)(h0:0<=n)(h1:n<=1099511627775) rest:Jzu (Jep n++rest,false,())=(n,rest,false,()):=by unfold Jzu Jep;rw[if_neg (by simp),if_pos ⟨h0,h1⟩];have:=Jzt 6 6 0 0 n.toNat rest rfl (λh=>by omega) (by omega) (by decide) (by omega) (λ_=>by omega);rw[this];congr 1;omega
abbrev Hdr:=Int×Int×List UInt8×List UInt8×List UInt8×List UInt8×Unit
def Jap(h:Hdr):Bool:=decide (1<=h.1)&&(decide (h.1<=16)&&(decide (0<=h.2.1)&&decide (h.2.1<=1073741824)))
theorem Jf9 h:J5s h=some (Jap h):=by unfold J5s Jap;simp only[Jm4];grind
theorem Jb5(h:Hdr):Jap h=true↔(1<=h.1/\h.1<=16)/\0<=h.2.1/\h.2.1<=1073741824:=by unfold Jap;grind
def Jaw(h:Hdr):Prop:=h.2.2.1.length=32/\h.2.2.2.1.length=32/\h.2.2.2.2.1.length=32/\h.2.2.2.2.2.1.length=32
def Jgo(h:Hdr):List UInt8:=Jep h.1++(Jep h.2.1++(h.2.2.1++(h.2.2.2.1++(h.2.2.2.2.1++h.2.2.2.2.2.1))))
def Jex(h:Hdr):List UInt8:=if Jap h then Jgo h else[]
theorem K8b h (hh:Jaw h):J7l h=some (Jex h):=by obtain⟨a,b,c,d⟩:=hh;unfold J7l Jex;rw[Jf9,J8a];cases Jap h with|false=>rfl|true=>rw[show(!true)=false from rfl,J8t,put_eq _ (by simp),J8a,Jx4 _ (by simp) (by intro x hx;simp at hx;rcases hx with rfl|rfl|rfl|rfl<;>assumption),J8a];have l1:=Jsd [h.1,h.2.1];simp at l1;rw[J8d (by simp;omega)];simp[Jd9,Jgo]
theorem Jym h (hh:Jaw h):(Jgo h).length<=142:=by obtain⟨a,b,c,d⟩:=hh;have:=J9k h.1;have:=J9k h.2.1;unfold Jgo;grind
def Jye:Hdr:=(0,0,List.replicate 32 0,List.replicate 32 0,List.replicate 32 0,List.replicate 32 0,())
theorem Kdl(r:Rdr):J3a r=some (!r.2.1&&decide (r.1=[])):=by obtain⟨l,b,u⟩:=r;cases b with|true=>rfl|false=>show some (decide ((l.length:Int)=0))=some (true&&decide (l=[]));simp_all
set_option maxRecDepth 100000
def Jfg(x:UInt32)(n:Nat):UInt32:=UInt32.ofNat (x.toNat<<<(32 - n))|||UInt32.ofNat (x.toNat>>>n)
def shr(x:UInt32)(n:Nat):UInt32:=UInt32.ofNat (x.toNat>>>n)
def Kda(b:List UInt8)(i k:Nat):UInt32:=UInt32.ofNat (UInt32.toNat (UInt32.ofNat (UInt8.toNat (List.getD b i 0)))<<<k)
def word(b:List UInt8)(i:Nat):UInt32:=((Kda b (4*i) 24|||Kda b (4*i+1) 16)|||Kda b (4*i+2) 8)|||UInt32.ofNat (UInt8.toNat (List.getD b (4*i+3) 0))
def Jy4(b:List UInt8)(i:Nat)(w:List UInt32):List UInt32:=w.set i (word b i)
def Jy5(i:Nat)(w:List UInt32):List UInt32:=w.set i (((w.getD (i - 16) 0+((Jfg (w.getD (i - 15) 0) 7^^^Jfg (w.getD (i - 15) 0) 18)^^^shr (w.getD (i - 15) 0) 3))+w.getD (i - 7) 0)+((Jfg (w.getD (i - 2) 0) 17^^^Jfg (w.getD (i - 2) 0) 19)^^^shr (w.getD (i - 2) 0) 10))
def Jiw(b:List UInt8):List UInt32:=J9m Jy5 16 48 (J9m (Jy4 b) 0 16 (List.replicate 64 0))
abbrev W8:=UInt32×UInt32×UInt32×UInt32×UInt32×UInt32×UInt32×UInt32
def Jbd(k w:List UInt32)(i:Nat)(s:W8):W8:=
 match s with
 |(a,b,c,d,e,f,g,h)=>
  let one:=(((h+((Jfg e 6^^^Jfg e 11)^^^Jfg e 25))+((e&&& f)^^^((~~~e)&&& g)))+k.getD i 0)+w.getD i 0
  (one+(((Jfg a 2^^^Jfg a 13)^^^Jfg a 22)+(((a&&& b)^^^(a&&& c))^^^(b&&& c))),a,b,c,d+one,e,f,g)
def K1h(s:W8):List UInt32:=[s.1,s.2.1,s.2.2.1,s.2.2.2.1,s.2.2.2.2.1,s.2.2.2.2.2.1,s.2.2.2.2.2.2.1,s.2.2.2.2.2.2.2]
def tup8(h:List UInt32):W8:=(h.getD 0 0,h.getD 1 0,h.getD 2 0,h.getD 3 0,h.getD 4 0,h.getD 5 0,h.getD 6 0,h.getD 7 0)
def addS(v:List UInt32)(i:Nat)(h:List UInt32):List UInt32:=h.set i (h.getD i 0+v.getD i 0)
def K54(k:List UInt32)(b:List UInt8)(h:List UInt32):List UInt32:=J9m (addS (K1h (J9m (Jbd k (Jiw b)) 0 64 (tup8 h)))) 0 8 h
def kS:List UInt32:=[1116352408,1899447441,3049323471,3921009573,961987163,1508970993,2453635748,2870763221,3624381080,310598401,607225278,1426881987,1925078388,2162078206,2614888103,3248222580,3835390401,4022224774,264347078,604807628,770255983,1249150122,1555081692,1996064986,2554220882,2821834349,2952996808,3210313671,3336571891,3584528711,113926993,338241895,666307205,773529912,1294757372,1396182291,1695183700,1986661051,2177026350,2456956037,2730485921,2820302411,3259730800,3345764771,3516065817,3600352804,4094571909,275423344,430227734,506948616,659060556,883997877,958139571,1322822218,1537002063,1747873779,1955562222,2024104815,2227730452,2361852424,2428436474,2756734187,3204031479,3329325298]
def h0S:List UInt32:=[1779033703,3144134277,1013904242,2773480762,1359893119,2600822924,528734635,1541459225]
def Jew(n:UInt64)(i:Nat):UInt8:=UInt8.ofNat (UInt64.toNat (UInt64.ofNat (UInt64.toNat n>>>(8*i))))
def bitsOf(b:List UInt8):UInt64:=UInt64.ofNat b.length*8
def Kc5(b:List UInt8):List UInt8:=b++128::(List.replicate ((b.length+8) / 64*64+55 - b.length) 0++[Jew (bitsOf b) 7,Jew (bitsOf b) 6,Jew (bitsOf b) 5,Jew (bitsOf b) 4,Jew (bitsOf b) 3,Jew (bitsOf b) 2,Jew (bitsOf b) 1,Jew (bitsOf b) 0])
def Jfl:Nat->List UInt8->List UInt32->List UInt32
 |0,_,h=>h
 |n+1,l,h=>Jfl n (l.drop 64) (K54 kS (l.take 64) h)
def K2j(x:UInt32)(j:Nat):UInt8:=UInt8.ofNat (UInt32.toNat (UInt32.ofNat (UInt32.toNat x>>>(24 - 8*j))))
def outS(h:List UInt32):List UInt8:=h.flatMap λx=>[K2j x 0,K2j x 1,K2j x 2,K2j x 3]
def sha(b:List UInt8):List UInt8:=outS (Jfl ((b.length+8) / 64+1) (Kc5 b) h0S)
theorem right7 x:J1k x 7=some (Jfg x 7):=rfl
theorem Kf7 x:J1k x 18=some (Jfg x 18):=rfl
theorem Kf6 x:J1k x 17=some (Jfg x 17):=rfl
theorem Kf8 x:J1k x 19=some (Jfg x 19):=rfl
theorem right6 x:J1k x 6=some (Jfg x 6):=rfl
theorem Kf4 x:J1k x 11=some (Jfg x 11):=rfl
theorem Kfa x:J1k x 25=some (Jfg x 25):=rfl
theorem right2 x:J1k x 2=some (Jfg x 2):=rfl
theorem Kf5 x:J1k x 13=some (Jfg x 13):=rfl
theorem Kf9 x:J1k x 22=some (Jfg x 22):=rfl
theorem Jvi(b:List UInt8)(hb:b.length=64) z w {i:Nat} (hi:i<16):J14_1_step b (i:Int) z w=some (.inl (((i+1:Nat):Int),Jy4 b i w)):=by
 unfold J14_1_step;have e0:Int.toNat (4*(i:Int))=4*i:=by omega
 have e1:Int.toNat (4*(i:Int)+1)=4*i+1:=by omega
 have e2:Int.toNat (4*(i:Int)+2)=4*i+2:=by omega
 have e3:Int.toNat (4*(i:Int)+3)=4*i+3:=by omega
 simp (disch:=omega)only[J8y,J9n,J8d,hb,e0,e1,e2,e3,Int.toNat_natCast];rfl
theorem Kay(b:List UInt8)(hb:b.length=64) z:J14_1 b 0 z z=some (z,J9m (Jy4 b) 0 16 z):=by refine J8p (λi w=>((i:Int),w)) (Jy4 b) (λw=>(z,w)) 16 (λ_ _=>True) (λi w hi _=>⟨Jvi b hb z w hi,trivial⟩) (λw _=> ?_) 16 0 z rfl trivial;rfl
theorem Jvj z w {i:Nat} (h1:16<=i) (hi:i<64):J14_2_step (i:Int) z w=some (.inl (((i+1:Nat):Int),Jy5 i w)):=by
 unfold J14_2_step;have e0:Int.toNat ((i:Int) - 15)=i - 15:=by omega
 have e1:Int.toNat ((i:Int) - 2)=i - 2:=by omega
 have e2:Int.toNat ((i:Int) - 16)=i - 16:=by omega
 have e3:Int.toNat ((i:Int) - 7)=i - 7:=by omega
 simp (disch:=omega)only[J8y,J9n,J8d,e0,e1,e2,e3,Int.toNat_natCast,right7,Kf7,Kf6,Kf8,J8a];rfl
theorem Kaz z w:J14_2 16 z w=some (z,J9m Jy5 16 48 w):=by refine J8p (λi w=>((i:Int),w)) Jy5 (λw=>(z,w)) 64 (λi _=>16<=i) (λi w hi h=>⟨Jvj z w h hi,by omega⟩) (λw _=> ?_) 48 16 w rfl (Nat.le_refl _);rfl
theorem K6x(b:List UInt8)(hb:b.length=64):J14 b=some (Jiw b):=by unfold J14;rw[Kay b hb,J8a,Kaz,J8a,Jiw]
theorem K53 k w hz (s:W8) {i:Nat} (hi:i<64):J0q_1_step s.1 s.2.1 s.2.2.1 s.2.2.2.1 s.2.2.2.2.1 s.2.2.2.2.2.1 s.2.2.2.2.2.2.1 s.2.2.2.2.2.2.2 (i:Int) hz k w=some (.inl ((Jbd k w i s).1,(Jbd k w i s).2.1,(Jbd k w i s).2.2.1,(Jbd k w i s).2.2.2.1,(Jbd k w i s).2.2.2.2.1,(Jbd k w i s).2.2.2.2.2.1,(Jbd k w i s).2.2.2.2.2.2.1,(Jbd k w i s).2.2.2.2.2.2.2,((i+1:Nat):Int))):=by unfold J0q_1_step;simp (disch:=omega)only[J8y,J9n,J8d,Int.toNat_natCast,right6,Kf4,Kfa,right2,Kf5,Kf9,J8a];rfl
theorem mix_1 k w hz (s:W8):J0q_1 s.1 s.2.1 s.2.2.1 s.2.2.2.1 s.2.2.2.2.1 s.2.2.2.2.2.1 s.2.2.2.2.2.2.1 s.2.2.2.2.2.2.2 0 hz k w=some ((J9m (Jbd k w) 0 64 s).1,(J9m (Jbd k w) 0 64 s).2.1,(J9m (Jbd k w) 0 64 s).2.2.1,(J9m (Jbd k w) 0 64 s).2.2.2.1,(J9m (Jbd k w) 0 64 s).2.2.2.2.1,(J9m (Jbd k w) 0 64 s).2.2.2.2.2.1,(J9m (Jbd k w) 0 64 s).2.2.2.2.2.2.1,(J9m (Jbd k w) 0 64 s).2.2.2.2.2.2.2,hz,k):=by refine J8p (λi (s:W8)=>(s.1,s.2.1,s.2.2.1,s.2.2.2.1,s.2.2.2.2.1,s.2.2.2.2.2.1,s.2.2.2.2.2.2.1,s.2.2.2.2.2.2.2,(i:Int))) (Jbd k w) (λ(s:W8)=>(s.1,s.2.1,s.2.2.1,s.2.2.2.1,s.2.2.2.2.1,s.2.2.2.2.2.1,s.2.2.2.2.2.2.1,s.2.2.2.2.2.2.2,hz,k)) 64 (λ_ _=>True) (λi s hi _=>⟨K53 k w hz s hi,trivial⟩) (λs _=> ?_) 64 0 s rfl trivial;rfl
theorem mix_2 v h k:J0q_2 v 0 h k=some (J9m (addS v) 0 8 h,k):=by
 refine J8p (λi w=>((i:Int),w)) (addS v) (λw=>(w,k)) 8 (λ_ _=>True) (λi w hi _=>⟨?_,trivial⟩) (λw _=> ?_) 8 0 h rfl trivial;·unfold J0q_2_step;simp (disch:=omega)only[J8y,J9n,J8d,Int.toNat_natCast];rfl
 rfl
theorem mix_eq(b:List UInt8)(hb:b.length=64) h k:J0q b h k=some (K54 k b h,k):=by
 unfold J0q;rw[K6x b hb,J8a];have:=mix_1 k (Jiw b) h (tup8 h);simp only[tup8]at this
 rw[show(Int.toNat (0:Int))=0 from rfl,show(Int.toNat (1:Int))=1 from rfl,show(Int.toNat (2:Int))=2 from rfl,show(Int.toNat (3:Int))=3 from rfl,show(Int.toNat (4:Int))=4 from rfl,
  show(Int.toNat (5:Int))=5 from rfl,show(Int.toNat (6:Int))=6 from rfl,show(Int.toNat (7:Int))=7 from rfl,this,J8a,mix_2,J8a]
 rfl
set_option maxRecDepth 100000
theorem K37(n:Nat)(h:n<=1073741824):J7m (n:Int)=some (((n+8) / 64+1:Nat):Int):=by
 unfold J7m;have e:Int.tdiv ((n:Int)+8) 64=(((n+8) / 64:Nat):Int):=by rfl
 simp (disch:=omega)only[J9n,e];rfl
theorem Jy1(a l:List α)(k:Nat) x:(a++l).set (a.length+k) x=a++l.set k x:=by grind
theorem Jxo x0 (n:Nat) (hn:8<=n) (hn2:n<=2147483648) (l:List UInt8) (hl:l.length=n):J3y_1 x0 0 l=some (J9m (λi (w:List UInt8)=>w.set (n - 1 - i) (Jew x0 i)) 0 8 l):=by
 refine J8p (λi w=>((i:Int),w)) (λi (w:List UInt8)=>w.set (n - 1 - i) (Jew x0 i)) (λw=>w) 8 (λ_ w=>w.length=n) (λi w hi hw=>⟨?_,by simp[hw]⟩) (λw _=> ?_) 8 0 l rfl hl
 ·unfold J3y_1_step;have e0:Int.toNat ((n:Int) - 1 - (i:Int))=n - 1 - i:=by omega
  have e1:Int.toNat (8*(i:Int))=8*i:=by omega
  simp (disch:=omega)only[J8y,J9n,J8d,hw,e0,e1];rfl
 rfl
theorem K5n(b:List UInt8)(hb:b.length<=1073741824):J3y b=some (Kc5 b):=by
 unfold J3y;rw[K37 _ hb,J8a];have hN:w64 ((((b.length+8) / 64+1:Nat):Int)*64)=(((b.length+8) / 64*64+64:Nat):Int):=by rw[oW];omega
 generalize hn:(b.length+8) / 64*64+64=n at hN;rw[hN,oN,Int.toNat_natCast,List.length_replicate,List.take_of_length_le (by omega),List.drop_replicate];have hz:n - b.length=((b.length+8) / 64*64+55 - b.length)+1+8:=by omega
 have hl:(b++List.replicate (n - b.length) (0:UInt8)).length=n:=by simp;omega
 rw[hl,oN,Int.toNat_natCast];have hbits:UInt64.ofNat (Int.toNat ((b.length:Int)%18446744073709551616))*8=bitsOf b:=by unfold bitsOf;congr 2;omega
 rw[hbits,Jxo (bitsOf b) n (by omega) (by omega) _ (by rw[List.length_set,hl]),J8a];congr 1;have h1:(b++List.replicate (n - b.length) (0:UInt8)).set b.length 128=(b++128::List.replicate ((b.length+8) / 64*64+55 - b.length) 0)++[0,0,0,0,0,0,0,0]:=by rw[hz];generalize (b.length+8) / 64*64+55 - b.length=z;have h:=Jy1 b (List.replicate ((z+8)+1) (0:UInt8)) 0 128;rw[Nat.add_zero b.length]at h;rw[h,List.replicate_succ,List.set_cons_zero,<-List.replicate_append_replicate,List.append_assoc];rfl
 rw[h1];have hA:(b++128::List.replicate ((b.length+8) / 64*64+55 - b.length) (0:UInt8)).length=n - 8:=by simp;omega
 generalize hA2:(b++128::List.replicate ((b.length+8) / 64*64+55 - b.length) (0:UInt8))=A at hA;have ix:∀i,i<8->n - 1 - i=A.length+(7 - i):=by intro i hi;omega
 simp only[J9m];rw[ix 0 (by omega),ix (0+1) (by omega),ix (0+1+1) (by omega),ix (0+1+1+1) (by omega),ix (0+1+1+1+1) (by omega),ix (0+1+1+1+1+1) (by omega)];simp only[Jy1];unfold Kc5;grind
theorem Jxn(b:List UInt8):(Kc5 b).length=64*((b.length+8) / 64+1):=by unfold Kc5;simp;omega
theorem Jql{f:Nat->List α->List α}(h:∀i w,(f i w).length=w.length):∀(k i:Nat) (w:List α),(J9m f i k w).length=w.length
 |0,_,_=>rfl
 |k+1,i,w=>by rw[J9m,Jql h k,h]
theorem Jzq k (b:List UInt8) (h:List UInt32):(K54 k b h).length=h.length:=Jql (λi w=>by simp[addS]) _ _ _
theorem Jfm:∀(n:Nat) (l:List UInt8) (h:List UInt32),(Jfl n l h).length=h.length
 |0,_,_=>rfl
 |n+1,l,h=>by rw[Jfl,Jfm n,Jzq]
theorem sum_1 out:∀(n:Nat) (l:List UInt8),l.length=64*n->l.length<=2147483648->∀h,J15_1 l out h kS=some (out,Jfl n l h)
 |0,l,hl,_,h=>by unfold J15_1;refine J96 ?_;show J8b (decide ((0:Int)<(l.length:Int))) _ _=_;rw[oF];rfl
 |n+1,l,hl,hl2,h=>by have hm:=mix_eq (l.take 64) (by rw[List.length_take];omega) h kS;have hs:J15_1_step l out h kS=some (.inl (l.drop 64,K54 kS (l.take 64) h,kS)):=(by unfold J15_1_step;rw[oT,oN,show J9v l (0:Int) (64:Int)=l.take 64 from rfl,hm,J8a,oN];have:J9v l (64:Int) (l.length:Int)=l.drop 64:=(by unfold J9v;rw[Int.toNat_natCast,List.take_of_length_le (Nat.le_refl _)];rfl);rw[this]);have ih:=sum_1 out n (l.drop 64) (by rw[List.length_drop];omega) (by rw[List.length_drop];omega) (K54 kS (l.take 64) h);unfold J15_1 at ih⊢;rw[J9l (s':=(l.drop 64,K54 kS (l.take 64) h,kS)) hs,ih];rfl
def Juv(x:UInt32)(i:Nat)(acc:List UInt8):List UInt8:=J9m (λj (acc:List UInt8)=>acc.set (4*i+j) (K2j x j)) 0 4 acc
theorem sum_2 x h z acc {i:Nat} (hi:i<8):J15_2 (i:Int) x h (i:Int) 0 z acc=some (h,(i:Int),z,Juv x i acc):=by
 refine J8p (λj acc=>((j:Int),acc)) (λj (acc:List UInt8)=>acc.set (4*i+j) (K2j x j)) (λacc=>(h,(i:Int),z,acc)) 4 (λ_ _=>True) (λj acc hj _=>⟨?_,trivial⟩) (λacc _=> ?_) 4 0 acc rfl trivial
 ·unfold J15_2_step;have e0:Int.toNat (4*(i:Int)+(j:Int))=4*i+j:=by omega
  have e1:Int.toNat (24 - 8*(j:Int))=24 - 8*j:=by omega
  simp (disch:=omega)only[J8y,J9n,J8d,e0,e1];rfl
 rfl
theorem sum_3(h:List UInt32) z acc:J15_3 h 0 z acc=some (z,J9m (λi acc=>Juv (h.getD i 0) i acc) 0 8 acc):=by
 refine J8p (λi acc=>(h,(i:Int),z,acc)) (λi acc=>Juv (h.getD i 0) i acc) (λacc=>(z,acc)) 8 (λ_ _=>True) (λi acc hi _=>⟨?_,trivial⟩) (λacc _=> ?_) 8 0 acc rfl trivial;·show J15_3_step h (i:Int) z acc=_;unfold J15_3_step;rw[oT,oN,sum_2 _ _ _ _ hi,J8a];rw[J9n (by show(-9223372036854775808:Int)<=(i:Int)+1;omega) (by show(i:Int)+1<=9223372036854775807;omega)];rfl
 rfl
theorem Kem a b c d e f g i:J9m (λj acc=>Juv (List.getD [a,b,c,d,e,f,g,i] j 0) j acc) 0 8 (List.replicate 32 (0:UInt8))=outS [a,b,c,d,e,f,g,i]:=by kernel_rfl
theorem out_eq(h:List UInt32)(hh:h.length=8):J9m (λi acc=>Juv (h.getD i 0) i acc) 0 8 (List.replicate 32 (0:UInt8))=outS h:=by match h,hh with|[a,b,c,d,e,f,g,i],_=>exact Kem a b c d e f g i
theorem K96:J7y=some h0S:=by kernel_rfl
theorem K83:J7x=some kS:=by kernel_rfl
theorem sum_eq(b:List UInt8)(hb:b.length<=1073741824):J15 b=some (sha b):=by unfold J15;rw[K96,J8a,K83,J8a,K5n b hb,J8a,sum_1 _ _ _ (Jxn b) (by rw[Jxn];omega)];simp only[sum_3,J8a];rw[out_eq _ (by rw[Jfm];rfl)];rfl
theorem J9z b:(sha b).length=32:=by
 unfold sha outS;have:(Jfl ((b.length+8) / 64+1) (Kc5 b) h0S).length=8:=by rw[Jfm];rfl
 generalize Jfl ((b.length+8) / 64+1) (Kc5 b) h0S=h at this;match h,this with|[a,b,c,d,e,f,g,i],_=>rfl
theorem getD_take(l:List (List α))(h:i<l.length):(l.take i).flatten++l.getD i []=(l.take (i+1)).flatten:=by rw[List.take_add_one,List.flatten_append,List.getD_eq_getElem?_getD,List.getElem?_eq_getElem h];simp
theorem Jej(l:List (List α))(i:Nat):((l.take i).flatten).length<=l.flatten.length:=by
 conv=>rhs;rw[<-List.take_append_drop i l]
 rw[List.flatten_append,List.length_append];omega
theorem Jay t (l:List (List UInt8)) (h:l.flatten.length<=1073741823) (hl:l.length<=1073741823):J0e t l=some (sha (t::l.flatten)):=by
 unfold J0e;have:∀z,J0e_1 l (l.length:Int) 0 z [t]=some (z,t::l.flatten):=by
  intro z;unfold J0e_1;have:=J8p (step:=λ(s:Int×List UInt8)=>J0e_1_step l (l.length:Int) s.1 z s.2) (λi (_:Unit)=>((i:Int),t::(l.take i).flatten)) (λ_ _=>()) (λ_=>(z,t::l.flatten)) l.length (λ_ _=>True) (λi w hi _=>⟨?_,trivial⟩) (λw _=> ?_) l.length 0 () (by omega) trivial;·exact this
  ·unfold J0e_1_step;have e:=getD_take l hi;have le:=Jej l (i+1);rw[<-e,List.length_append]at le;simp (disch:=omega)only[J8y,J9n,J8d,Int.toNat_natCast];rw[J8d (by rw[List.length_cons];omega),List.cons_append,e];rfl
  unfold J0e_1_step;rw[oF,List.take_of_length_le (Nat.le_refl _)]
 rw[this,J8a];simp only[];rw[sum_eq _ (by rw[List.length_cons];omega),J8a]
set_option maxRecDepth 100000
theorem Jbm(x:UInt32)(n:Nat):UInt32.ofNat (x.toNat>>>n)|||UInt32.ofNat (x.toNat<<<(32 - n))=Jfg x n:=UInt32.or_comm _ _
theorem turn7 x:J05 x 7=some (Jfg x 7):=congrArg some (Jbm x 7)
theorem turn18 x:J05 x 18=some (Jfg x 18):=congrArg some (Jbm x 18)
theorem turn17 x:J05 x 17=some (Jfg x 17):=congrArg some (Jbm x 17)
theorem turn19 x:J05 x 19=some (Jfg x 19):=congrArg some (Jbm x 19)
theorem turn6 x:J05 x 6=some (Jfg x 6):=congrArg some (Jbm x 6)
theorem turn11 x:J05 x 11=some (Jfg x 11):=congrArg some (Jbm x 11)
theorem turn25 x:J05 x 25=some (Jfg x 25):=congrArg some (Jbm x 25)
theorem turn2 x:J05 x 2=some (Jfg x 2):=congrArg some (Jbm x 2)
theorem turn13 x:J05 x 13=some (Jfg x 13):=congrArg some (Jbm x 13)
theorem turn22 x:J05 x 22=some (Jfg x 22):=congrArg some (Jbm x 22)
theorem Ka9(b:List UInt8)(hb:b.length=64) k h v z:Jc_1 b k 0 h v z=some (k,h,v,J9m (Jy4 b) 0 16 z):=by
 refine J8p (λi w=>((i:Int),w)) (Jy4 b) (λw=>(k,h,v,w)) 16 (λ_ _=>True) (λi w hi _=>⟨?_,trivial⟩) (λw _=> ?_) 16 0 z rfl trivial
 ·unfold Jc_1_step;have e0:Int.toNat (4*(i:Int))=4*i:=by omega
  have e1:Int.toNat (4*(i:Int)+1)=4*i+1:=by omega
  have e2:Int.toNat (4*(i:Int)+2)=4*i+2:=by omega
  have e3:Int.toNat (4*(i:Int)+3)=4*i+3:=by omega
  simp (disch:=omega)only[J8y,J9n,J8d,hb,e0,e1,e2,e3,Int.toNat_natCast];rfl
 rfl
theorem Kaa k h v z:Jc_2 k 16 h v z=some (k,h,v,J9m Jy5 16 48 z):=by
 refine J8p (λi w=>((i:Int),w)) Jy5 (λw=>(k,h,v,w)) 64 (λi _=>16<=i) (λi w hi hh=>⟨?_,by omega⟩) (λw _=> ?_) 48 16 z rfl (Nat.le_refl _)
 ·unfold Jc_2_step;have e0:Int.toNat ((i:Int) - 15)=i - 15:=by omega
  have e1:Int.toNat ((i:Int) - 2)=i - 2:=by omega
  have e2:Int.toNat ((i:Int) - 16)=i - 16:=by omega
  have e3:Int.toNat ((i:Int) - 7)=i - 7:=by omega
  simp (disch:=omega)only[J8y,J9n,J8d,e0,e1,e2,e3,Int.toNat_natCast,turn7,turn18,turn17,turn19,J8a];rfl
 rfl
theorem Kab(k h v w:List UInt32)(hk:k.length=64) s:Jc_3 k 0 h v w (K1h s)=some (h,v,K1h (J9m (Jbd k w) 0 64 s)):=by
 refine J8p (λi (s:W8)=>((i:Int),K1h s)) (Jbd k w) (λs=>(h,v,K1h s)) 64 (λ_ _=>True) (λi s hi _=>⟨?_,trivial⟩) (λs _=> ?_) 64 0 s rfl trivial
 ·obtain⟨a,b,c,d,e,f,g,x⟩:=s;unfold Jc_3_step;simp (disch:=omega)only[J8y,J9n,J8d,hk,Int.toNat_natCast,turn6,turn11,turn25,turn2,turn13,turn22,J8a]
  rw[show Jbd k w i (a,b,c,d,e,f,g,x)=((((((x+((Jfg e 6^^^Jfg e 11)^^^Jfg e 25))+((e&&& f)^^^((~~~e)&&& g)))+k.getD i 0)+w.getD i 0)+((Jfg a 2^^^Jfg a 13)^^^Jfg a 22))+(((a&&& b)^^^(a&&& c))^^^(b&&& c)),a,b,c,
   d+((((x+((Jfg e 6^^^Jfg e 11)^^^Jfg e 25))+((e&&& f)^^^((~~~e)&&& g)))+k.getD i 0)+w.getD i 0),e,f,g)from by simp only[Jbd,UInt32.add_assoc]]
  rfl
 rfl
theorem Kac h z v:Jc_4 0 h z v=some (J9m (addS v) 0 8 h,z):=by
 refine J8p (λi w=>((i:Int),w)) (addS v) (λw=>(w,z)) 8 (λ_ _=>True) (λi w hi _=>⟨?_,trivial⟩) (λw _=> ?_) 8 0 h rfl trivial;·unfold Jc_4_step;simp (disch:=omega)only[J8y,J9n,J8d,Int.toNat_natCast];rfl
 rfl
theorem K1i(h:List UInt32)(hh:h.length=8):K1h (tup8 h)=h:=by match h,hh with|[a,b,c,d,e,f,g,i],_=>rfl
theorem K61(h:List UInt32)(hh:h.length=8)(b:List UInt8)(hb:b.length=64)(k:List UInt32)(hk:k.length=64):Jc h b k=some (K54 k b h):=by unfold Jc;simp only[Ka9 b hb,Kaa,J8a];have h3:=Kab k h (List.replicate 8 0) (Jiw b) hk (tup8 h);rw[K1i h hh]at h3;rw[show J9m Jy5 16 48 (J9m (Jy4 b) 0 16 (List.replicate 64 0))=Jiw b from by rw[Jiw],h3,J8a];simp only[Kac,J8a];rw[K54]
theorem Kcm(n:Nat):Int.tmod (n:Int) 64=((n%64:Nat):Int):=by rfl
theorem rsum_1(b:List UInt8)(hb:b.length<=1073741824) out k h:Jd_1 b out k h (b++[128])=some (b,out,k,h,(b++[128])++List.replicate ((b.length+8) / 64*64+55 - b.length) 0):=by
 unfold Jd_1;generalize hz:(b.length+8) / 64*64+55 - b.length=z;have:=J8p (step:=λs=>Jd_1_step b out k h s) (λi (_:Unit)=>(b++[128])++List.replicate i (0:UInt8)) (λ_ _=>()) (λ_=>(b,out,k,h,(b++[128])++List.replicate z 0)) z (λ_ _=>True) (λi w hi _=>⟨?_,trivial⟩) (λw _=> ?_) z 0 () (by omega) trivial;·simpa using this
 ·unfold Jd_1_step;rw[Kcm,Jdt (by simp;omega),J8d (by simp;omega),List.append_assoc,List.append_assoc,List.append_assoc,<-List.replicate_succ']
 unfold Jd_1_step;rw[Kcm,Jd2 (by simp;omega)]
theorem K2d{j:Nat}(h:j<8):(UInt64.ofNat (Int.toNat ((8*((7:Int) - (j:Int)))%18446744073709551616))).toNat=8*(7 - j):=by
 have:Int.toNat ((8*((7:Int) - (j:Int)))%18446744073709551616)=8*(7 - j):=by omega
 rw[UInt64.toNat_ofNat'];omega
theorem rsum_2(b:List UInt8)(hb:b.length<=1073741824)(out m:List UInt8)(hm:m.length<=1073741924) k h:Jd_2 b 7 out k h m=some (out,k,h,J9m (λj (l:List UInt8)=>l++[Jew (bitsOf b) (7 - j)]) 0 8 m):=by
 refine J8p (step:=λ(s:Int×List UInt8)=>Jd_2_step b s.1 out k h s.2) (λj l=>((7:Int) - (j:Int),l)) (λj (l:List UInt8)=>l++[Jew (bitsOf b) (7 - j)]) (λl=>(out,k,h,l)) 8 (λj l=>l.length=m.length+j) (λj l hj hl=>⟨?_,by simp[hl];omega⟩) (λl _=> ?_) 8 0 m rfl rfl
 ·unfold Jd_2_step;have hbits:UInt64.ofNat (Int.toNat ((8*(b.length:Int))%18446744073709551616))=bitsOf b:=by rw[show Int.toNat ((8*(b.length:Int))%18446744073709551616)=b.length*8 from by omega,UInt64.ofNat_mul];rfl
  simp (disch:=omega)only[J8y,J9n,hbits];rw[oN,J8d (by simp;omega),K2d hj,Int.toNat_natCast];rw[show(7:Int) - (j:Int) - 1=7 - ((j+1:Nat):Int)from by omega];rfl
 rfl
theorem Kfh(l out:List UInt8)(n:Nat)(hl:l.length=64*n)(hn:64*n<=2147483648)(h:List UInt32)(hh:h.length=8):Jd_3 l 0 out kS h=some (out,J9m (λj h=>K54 kS ((l.drop (64*j)).take 64) h) 0 n h):=by
 refine J8p (step:=λ(s:Int×List UInt32)=>Jd_3_step l s.1 out kS s.2) (λj h=>(((64*j:Nat):Int),h)) (λj h=>K54 kS ((l.drop (64*j)).take 64) h) (λh=>(out,h)) n (λj h=>h.length=8) (λj h hj hh=>⟨?_,by rw[Jzq,hh]⟩) (λl _=> ?_) n 0 h (by omega) hh
 ·unfold Jd_3_step;have hc:J9v l ((64*j:Nat):Int) (((64*j:Nat):Int)+64)=(l.drop (64*j)).take 64:=by unfold J9v;rw[Int.toNat_natCast,List.drop_take];congr 1;omega
  simp (disch:=omega)only[J8y,J9n,J8d,hc];rw[K61 h hh _ (by rw[List.length_take,List.length_drop];omega) _ rfl,J8a];rfl
 unfold Jd_3_step;rw[oF]
theorem Jmv(l:List UInt8):∀(n j:Nat) (h:List UInt32),J9m (λj h=>K54 kS ((l.drop (64*j)).take 64) h) j n h=Jfl n (l.drop (64*j)) h
 |0,_,_=>rfl
 |n+1,j,h=>by rw[J9m,Jmv l n (j+1),Jfl,List.drop_drop];rfl
def Jo7(x:UInt32)(i:Nat)(acc:List UInt8):List UInt8:=(((acc.set (4*i) (K2j x 0)).set (4*i+1) (K2j x 1)).set (4*i+2) (K2j x 2)).set (4*i+3) (K2j x 3)
theorem rsum_4(h:List UInt32) z acc:Jd_4 h 0 z acc=some (z,J9m (λi acc=>Jo7 (h.getD i 0) i acc) 0 8 acc):=by
 refine J8p (step:=λ(s:Int×List UInt8)=>Jd_4_step h s.1 z s.2) (λi acc=>((i:Int),acc)) (λi acc=>Jo7 (h.getD i 0) i acc) (λacc=>(z,acc)) 8 (λ_ _=>True) (λi acc hi _=>⟨?_,trivial⟩) (λacc _=> ?_) 8 0 acc rfl trivial
 ·unfold Jd_4_step;have e0:Int.toNat (4*(i:Int))=4*i:=by omega
  have e1:Int.toNat (4*(i:Int)+1)=4*i+1:=by omega
  have e2:Int.toNat (4*(i:Int)+2)=4*i+2:=by omega
  have e3:Int.toNat (4*(i:Int)+3)=4*i+3:=by omega
  have hx:∀x:UInt32,K2j x 3=UInt8.ofNat x.toNat:=by intro x;simp[K2j]
  simp (disch:=omega)only[J8y,J9n,J8d,e0,e1,e2,e3,Int.toNat_natCast];rw[Jo7,hx];rfl
 rfl
theorem Kan a b c d e f g i:J9m (λj acc=>Jo7 (List.getD [a,b,c,d,e,f,g,i] j 0) j acc) 0 8 (List.replicate 32 (0:UInt8))=outS [a,b,c,d,e,f,g,i]:=by kernel_rfl
theorem Kfd(h:List UInt32)(hh:h.length=8):J9m (λi acc=>Jo7 (h.getD i 0) i acc) 0 8 (List.replicate 32 (0:UInt8))=outS h:=by match h,hh with|[a,b,c,d,e,f,g,i],_=>exact Kan a b c d e f g i
theorem K8g:J61=some kS:=by kernel_rfl
theorem Kff(b:List UInt8):J9m (λj (l:List UInt8)=>l++[Jew (bitsOf b) (7 - j)]) 0 8 ((b++[128])++List.replicate ((b.length+8) / 64*64+55 - b.length) 0)=Kc5 b:=by simp only[J9m,List.append_assoc];rfl
theorem Kfi(b:List UInt8)(hb:b.length<=1073741824):Jd b=some (sha b):=by
 unfold Jd;have h0:(List.set (List.set (List.set (List.set (List.set (List.set (List.set (List.set (List.replicate 8 (0:UInt32)) 0 (1779033703:UInt32)) 1 (3144134277:UInt32)) 2 (1013904242:UInt32)) 3 (2773480762:UInt32)) 4 (1359893119:UInt32)) 5 (2600822924:UInt32)) 6 (528734635:UInt32)) 7 (1541459225:UInt32))=h0S:=by kernel_rfl
 rw[K8g,J8a,J8d (by simp;omega),J8d (by simp;omega),h0,List.nil_append,rsum_1 b hb];simp only[rsum_2 b hb _ _ (show((b++[128])++List.replicate ((b.length+8) / 64*64+55 - b.length) (0:UInt8)).length<=1073741924 by simp;omega),J8a,Kff];rw[Kfh _ _ ((b.length+8) / 64+1) (Jxn b) (by omega) _ rfl,J8a,Jmv];simp only[rsum_4,J8a];rw[Kfd _ (by rw[Jfm];rfl)];rfl
theorem J9x t (l:List (List UInt8)) (h:l.flatten.length<=1073741823) (hl:l.length<=1073741823):Jb t l=some (sha (t::l.flatten)):=by
 unfold Jb;have:∀z,Jb_1 l (l.length:Int) 0 z [t]=some (z,t::l.flatten):=by
  intro z;have:=J8p (step:=λ(s:Int×List UInt8)=>Jb_1_step l (l.length:Int) s.1 z s.2) (λi (_:Unit)=>((i:Int),t::(l.take i).flatten)) (λ_ _=>()) (λ_=>(z,t::l.flatten)) l.length (λ_ _=>True) (λi w hi _=>⟨?_,trivial⟩) (λw _=> ?_) l.length 0 () (by omega) trivial;·exact this
  ·unfold Jb_1_step;have e:=getD_take l hi;have le:=Jej l (i+1);rw[<-e,List.length_append]at le;simp (disch:=omega)only[J8y,J9n,J8d,Int.toNat_natCast];rw[J8d (by rw[List.length_cons];omega),List.cons_append,e];rfl
  unfold Jb_1_step;rw[oF,List.take_of_length_le (Nat.le_refl _)]
 rw[this,J8a];rw[Kfi _ (by rw[List.length_cons];omega),J8a]
theorem Jvc:∀(f k n:Nat),n<128^(f+1)->f<k->f<=100->n<=1099511627775->Jl_f k (n:Int)=some (Kc f n)
 |f,0,n,h,hk,hf,hn=>by omega
 |f,k+1,n,h,hk,hf,hn=>by
  rw[Jl_f,oF,oF];by_cases h1:n<128;·rw[oT,Jqd h1 f,Jc8]
  rw[oF];cases f with|zero=>simp at h;omega|succ f=>have hd:n / 128<128^(f+1):=(by omega);rw[show Int.toNat 7=7 from rfl,Jzi n 7 (by omega),Jvc f k (n / 128) hd (by omega) (by omega) (by omega),J8a,K2v n (by omega),Kbm _ (by omega),Jc8];have:=Jsc f (n / 128);rw[J8d (by simp;omega),Kc,if_neg h1];rfl
theorem Jer(n:Int):Jl n=some (Jep n):=by
 unfold Jl Jep;by_cases h0:n<0;·rw[Jl_f,J8y h0,oJ]
 by_cases h1:1099511627775<n;·rw[Jl_f,J93 h0,J8y h1,oJ]
 rw[oI];obtain⟨k,rfl⟩:=Int.eq_ofNat_of_zero_le (show 0<=n by omega);exact Jvc 6 64 k (by omega) (by omega) (by omega) (by omega)
theorem Jxt(l:List (List UInt8))(hl:l.length<=1000)(hh:∀x∈l,x.length=32)(acc:List UInt8)(ha:acc.length<=1000):J04_1 (l.length:Int) 0 acc l=some (acc++l.flatten):=by
 have hlen:∀i,((l.take i).flatten).length<=32*l.length:=by
  intro i;have:∀(m:List (List UInt8)),(∀x∈m,x.length=32)->m.flatten.length=32*m.length:=by
   intro m;induction m with
   |nil=>intro _;rfl
   |cons a m ih=>intro hm;rw[List.flatten_cons,List.length_append,ih (λx hx=>hm x (List.mem_cons_of_mem _ hx)),hm a List.mem_cons_self,List.length_cons];omega
  rw[this _ λx hx=>hh x (List.mem_of_mem_take hx),List.length_take];omega
 unfold J04_1;have:=J8p (step:=λ(s:Int×List UInt8)=>J04_1_step (l.length:Int) s.1 s.2 l) (λi (_:Unit)=>((i:Int),acc++(l.take i).flatten)) (λ_ _=>()) (λ_=>acc++l.flatten) l.length (λ_ _=>True) (λi w hi _=>⟨?_,trivial⟩) (λw _=> ?_) l.length 0 () (by omega) trivial;·simpa using this
 ·unfold J04_1_step;have b:=hlen i;have hm:(l.getD i (List.replicate 32 0)).length=32:=hh _ (by rw[List.getD_eq_getElem?_getD,List.getElem?_eq_getElem hi];exact List.getElem_mem _);have e:=Jf0 (λx:List UInt8=>x) l (List.replicate 32 0) hi;simp at e;rw[oT,oN,Int.toNat_natCast,J8d (by rw[List.length_append];omega),oW,List.append_assoc,e];rfl
 unfold J04_1_step;rw[oF,List.take_of_length_le (Nat.le_refl _)]
theorem K63 h (hh:Jaw h):J04 h=some (Jgo h):=by obtain⟨a,b,c,d⟩:=hh;have l1:=J9k h.1;have l2:=J9k h.2.1;unfold J04;rw[Jer,J8a,Jer,J8a,oN,Jxt _ (by simp) (by intro x hx;simp at hx;rcases hx with rfl|rfl|rfl|rfl<;>assumption) _ (by rw[List.length_append];omega),J8a];simp[Jgo]
theorem Jin h (hh:Jaw h):J77 h=some (sha (72::Jex h)):=by
 have hl:(Jex h).length<=142:=by
  unfold Jex;split;·exact Jym h hh
  simp
 unfold J77;have hf:[Jex h].flatten=Jex h:=by simp
 rw[K8b h hh,J8a,Jay _ _ (by rw[hf];omega) (by simp),hf];rfl
theorem Jeh h (hh:Jaw h):J1j h=some (sha (72::Jgo h)):=by
 have hl:=Jym h hh;unfold J1j;have hf:[Jgo h].flatten=Jgo h:=by simp
 rw[K63 h hh,J8a,J9x _ _ (by rw[hf];omega) (by simp),hf];rfl
abbrev Val:=List UInt8×Int×List UInt8×Unit
def Jc1:Val:=(([]:List UInt8),(0:Int),(List.replicate 32 (0:UInt8)),())
theorem Jt8:((([]:List UInt8),(0:Int),(List.replicate 32 (0:UInt8)),()):Val)=Jc1:=rfl
theorem K9e(l:List (List UInt8)) x (hl:l.length<=1073741824):J37 l x=some (l.contains x):=by
 have h:J00_1 l x (l.length:Int) 0=some (scan (λi=>if x=l.getD i []then some (.inl (i:Int))else none) (.inr ()) 0 l.length):=by
  refine Jc3 (step:=λ(s:Int)=>J00_1_step l x (l.length:Int) s) (λi=>(i:Int)) _ _ l.length (λi hi h=> ?_) (λi r hi h=> ?_) ?_ l.length 0 (by omega)
  ·unfold J00_1_step;simp (disch:=omega)only[J8y,J9n,J8d,Int.toNat_natCast];by_cases e:x=l.getD i [];·rw[if_pos e]at h;cases h
   rw[J93 e];rfl
  ·unfold J00_1_step;simp (disch:=omega)only[J8y,J9n,J8d,Int.toNat_natCast];by_cases e:x=l.getD i [];·rw[if_pos e]at h;rw[J8y e];injection h with h;subst h;rfl
   rw[if_neg e]at h;cases h
  unfold J00_1_step;rw[oF]
 unfold J37 J00;rw[h,J8a];by_cases hx:x∈l
 ·have hm:∃j,j<l.length/\x=l.getD j []:=by obtain⟨j,hj,e⟩:=List.getElem_of_mem hx;exact⟨j,hj,by rw[List.getD_eq_getElem?_getD,List.getElem?_eq_getElem hj];exact e.symm⟩
  obtain⟨j,hj⟩:=Nat.find_of (p:=λj=>j<l.length/\x=l.getD j []) hm
  rw[Je0 l.length 0 j (Nat.zero_le _) (by omega) (λj' _ h=> ?_) (if_pos hj.1.2)];·simp[J89,hx]
  grind
 rw[Jfc _ _ (λj _ h=> ?_)];·simp[J89,hx]
 grind
def pow(p:Val->Bool)(l:List Val):Int:=((l.filter p).map (·.2.1)).sum
def Jg9(l:List Val):Prop:=l.length<=1000/\∀v∈l,0<=v.2.1/\v.2.1<=2097152
theorem Jdx p:∀(l:List Val),(∀v∈l,0<=v.2.1/\v.2.1<=2097152)->0<=pow p l/\pow p l<=2097152*l.length
 |[],_=>by simp[pow]
 |v::l,h=>by have ih:=Jdx p l λw hw=>h w (List.mem_cons_of_mem _ hw);unfold pow at ih⊢;grind
theorem K5 p (l:List Val) (h:i<l.length):pow p (l.take (i+1))=pow p (l.take i)+(if p (l.getD i Jc1)then(l.getD i Jc1).2.1 else 0):=by unfold pow;rw[List.take_add_one];grind
theorem Ja7{l:List α}{i:Nat}{z:α}(h:i<l.length):l.getD i z∈l:=by grind
theorem Kb6(l:List Val)(h:Jg9 l):J39 l=some (pow (λ_=>true) l):=by
 have main:J39_1 0 l (l.length:Int) 0=some (pow (λ_=>true) l):=by
  have:=J8p (step:=λ(s:Int×Int)=>J39_1_step s.1 l (l.length:Int) s.2) (λi (_:Unit)=>(pow (λ_=>true) (l.take i),(i:Int))) (λ_ _=>()) (λ_=>pow (λ_=>true) l) l.length (λ_ _=>True) (λi w hi _=>⟨?_,trivial⟩) (λw _=> ?_) l.length 0 () (by omega) trivial;·exact this
  ·unfold J39_1_step;simp only[Jt8];have b:=Jdx (λ_=>true) (l.take i) λv hv=>h.2 v (List.mem_of_mem_take hv);have hm:=h.2 _ (Ja7 (z:=Jc1) hi);have hl:=h.1;have t:=K5 (λ_=>true) l hi;rw[List.length_take]at b;simp (disch:=omega)only[J8y,J9n,J8d,Int.toNat_natCast];rw[t];rfl
  unfold J39_1_step;rw[oF,List.take_of_length_le (Nat.le_refl _)]
 unfold J39;rw[main,J8a]
theorem Kb4(l:List Val)(h:Jg9 l)(ns:List (List UInt8))(hn:ns.length<=1073741824):J38 l ns=some (pow (λv=>ns.contains v.1) l,pow (λ_=>true) l):=by
 have hl:=h.1;have main:J38_1 l ns 0 l (l.length:Int) 0=some (l,pow (λv=>ns.contains v.1) l):=by
  have:=J8p (step:=λ(s:Int×Int)=>J38_1_step l ns s.1 l (l.length:Int) s.2) (λi (_:Unit)=>(pow (λv=>ns.contains v.1) (l.take i),(i:Int))) (λ_ _=>()) (λ_=>(l,pow (λv=>ns.contains v.1) l)) l.length (λ_ _=>True) (λi w hi _=>⟨?_,trivial⟩) (λw _=> ?_) l.length 0 () (by omega) trivial;·exact this
  ·unfold J38_1_step;simp only[Jt8];have b:=Jdx (λv=>ns.contains v.1) (l.take i) λv hv=>h.2 v (List.mem_of_mem_take hv);have hm:=h.2 _ (Ja7 (z:=Jc1) hi);have t:=K5 (λv=>ns.contains v.1) l hi;rw[List.length_take]at b;simp (disch:=omega)only[J8y,J9n,J8d,Int.toNat_natCast,K9e _ _ hn,J8a];by_cases hc:ns.contains (l.getD i Jc1).1;·rw[if_pos hc]at t;rw[hc,Jbt,t];rfl
   rw[if_neg hc]at t;rw[Bool.not_eq_true]at hc;rw[hc,J8t,t,Int.add_zero];rfl
  unfold J38_1_step;rw[oF,List.take_of_length_le (Nat.le_refl _)]
 have b1:=Jdx (λv=>ns.contains v.1) l h.2;have b2:=Jdx (λ_=>true) l h.2;unfold J38;rw[main,J8a,J8d (by show Int.natAbs (pow _ l)<_;omega),Kb6 l h,J8a,oN]
theorem K5j(t:Int×Int) n d (h1:0<=t.1/\t.1<=4294967296) (h2:0<=t.2/\t.2<=4294967296) (hn:0<=n/\n<=1000) (hd:0<=d/\d<=1000):J7c t n d=some (decide (t.2*n<t.1*d)):=by unfold J7c;have b1:0<=t.2*n/\t.2*n<=4294967296*1000:=⟨Int.mul_nonneg h2.1 hn.1,Int.mul_le_mul h2.2 hn.2 hn.1 (by omega)⟩;have b2:0<=t.1*d/\t.1*d<=4294967296*1000:=⟨Int.mul_nonneg h1.1 hd.1,Int.mul_le_mul h1.2 hd.2 hd.1 (by omega)⟩;rw[oW,oW]
def Kef(v:Val):Bool:= !decide (v.1=[])&&(decide ((v.1.length:Int)<=16)&&(decide (1<=v.2.1)&&decide (v.2.1<=1048576)))
theorem may_eq v:J7w v=some (Kef v):=by unfold J7w Kef;simp only[Jm4];grind
def K9x(l:List Val)(i:Nat):Bool:=Kef (l.getD i Jc1)&&(i==0||J91 (l.getD (i - 1) Jc1).1 (l.getD i Jc1).1)
def Jfa(l:List Val):Bool:=(List.range l.length).all (K9x l)&&(decide (1<=l.length)&&decide (l.length<=5))
theorem right_eq(l:List Val)(hl:l.length<=1073741824):J1l l=some (Jfa l):=by
 have main:J1l_1 l l (l.length:Int) 0=some (scan (λi=>if K9x l i then none else some (.inl false)) (.inr l) 0 l.length):=by
  unfold J1l_1;have step:∀i,i<l.length->J1l_1_step l l (l.length:Int) (i:Int)=if K9x l i then some (.inl ((i+1:Nat):Int))else some (.inr (.inl false)):=by
   intro i hi;unfold J1l_1_step;simp only[Jt8];simp (disch:=omega)only[J8y,J9n,J8d,Int.toNat_natCast,may_eq,J8a];unfold K9x;by_cases hm:Kef (l.getD i Jc1)
   ·rw[hm];by_cases h0:i=0;·subst h0;rw[oF];rfl
    rw[oT,oN,show Int.toNat ((i:Int) - 1)=i - 1 from by omega];have:(i==0)=false:=(by simp[h0]);rw[this,Bool.false_or];by_cases hs:J91 (l.getD (i - 1) Jc1).1 (l.getD i Jc1).1;·rw[hs];rfl
    rw[Bool.not_eq_true]at hs;rw[hs];rfl
   rw[Bool.not_eq_true]at hm;rw[hm];rfl
  refine Jc3 (step:=λ(s:Int)=>J1l_1_step l l (l.length:Int) s) (λi=>(i:Int)) _ _ l.length (λi hi h=> ?_) (λi r hi h=> ?_) ?_ l.length 0 (by omega);·grind
  ·grind
  unfold J1l_1_step;rw[oF]
 unfold J1l;rw[main,J8a];unfold Jfa;by_cases hall:(List.range l.length).all (K9x l)
 ·rw[Jfc _ _ (λj _ h=>if_pos (List.all_eq_true.1 hall j (by simp;omega))),hall,Bool.true_and];simp only[Jm4];by_cases h1:1<=l.length;·rw[decide_eq_true h1,decide_eq_true (show(1:Int)<=(l.length:Int)by omega),if_pos rfl,Bool.true_and];congr 1;grind
  grind
 rw[Bool.not_eq_true]at hall;have:∃j,j<l.length/\K9x l j=false:=by grind
 obtain⟨j,hj⟩:=Nat.find_of this;have hsc:scan (λi=>if K9x l i then none else some (.inl false)) (.inr l:Bool⊕List Val) 0 l.length= .inl false:=by
  refine Je0 l.length 0 j (Nat.zero_le _) (by omega) (λj' _ h=>if_pos ?_) (if_neg ?_);·grind
  rw[hj.1.2];simp
 rw[hall,hsc];rfl
theorem Ka2 p (v:Val) l:pow p (v::l)=(if p v then v.2.1 else 0)+pow p l:=by unfold pow;grind
theorem Ker p:pow p []=0:=rfl
theorem Je2:∀a:List UInt8,J91 a a=false
 |[]=>rfl
 |x::a=>by rw[J91,Je2 a];simp
theorem Jau:∀a b c:List UInt8,J91 a b=true->J91 b c=true->J91 a c=true
 |_,[],_,h,_=>by cases ‹List UInt8›<;>simp[J91]at h
 |_,_::_,[],_,h=>by simp[J91]at h
 |[],_::_,_::_,_,_=>rfl
 |x::a,y::b,z::c,h1,h2=>by
  simp only[J91,Bool.or_eq_true,Bool.and_eq_true,beq_iff_eq]at h1 h2⊢;rcases h1 with h1|⟨rfl,h1⟩;·grind
  rcases h2 with h2|⟨rfl,h2⟩;·exact .inl h2
  exact .inr ⟨rfl,Jau a b c h1 h2⟩
def incN(ns:List (List UInt8)):Bool:=(List.range (ns.length - 1)).all λi=>J91 (ns.getD i []) (ns.getD (i+1) [])
theorem Juf:∀(ns:List (List UInt8)),incN ns=true->ns.Pairwise (λa b=>J91 a b=true)
 |[],_=>List.Pairwise.nil
 |[x],_=>List.pairwise_singleton _ _
 |x::y::ns,h=>by
  have hall:∀i,i<ns.length+1->J91 ((x::y::ns).getD i []) ((x::y::ns).getD (i+1) [])=true:=λi hi=>List.all_eq_true.1 h i (by simp;omega);have ih:=Juf (y::ns) (List.all_eq_true.2 λi hi=>by have:=hall (i+1) (by simp at hi;omega);exact this);have h0:=hall 0 (by omega);refine List.pairwise_cons.2 ⟨λz hz=> ?_,ih⟩;rcases List.mem_cons.1 hz with rfl|hz;·exact h0
  exact Jau _ _ _ h0 ((List.pairwise_cons.1 ih).1 z hz)
theorem Ke6:∀(ns:List (List UInt8)),ns.Pairwise (λa b=>J91 a b=true)->incN ns=true:=by
 intro ns h;refine List.all_eq_true.2 λi hi=> ?_;have hi:i<ns.length - 1:=by simpa using hi
 rw[List.getD_eq_getElem?_getD,List.getD_eq_getElem?_getD,List.getElem?_eq_getElem (by omega),List.getElem?_eq_getElem (by omega)];exact List.pairwise_iff_getElem.1 h i (i+1) (by omega) (by omega) (by omega)
def Ju6(l:List Val)(x:List UInt8):Val×Bool:=match l.find? (λv=>decide (v.1=x))with|some v=>(v,true)|none=>(Jc1,false)
theorem Jve(l:List Val) x:∀(k i:Nat),i+k=l.length->scan (λi=>if(l.getD i Jc1).1=x then some (.inl (true,l.getD i Jc1))else none) (.inr Jc1:(Bool×Val)⊕Val) i k=
  match (l.drop i).find? (λv=>decide (v.1=x))with|some v=>.inl (true,v)|none=>.inr Jc1
 |0,i,h=>by rw[List.drop_of_length_le (by omega)];rfl
 |k+1,i,h=>by
  have hd:l.drop i=l.getD i Jc1::l.drop (i+1):=(by rw[List.drop_eq_getElem_cons (by omega),List.getD_eq_getElem?_getD,List.getElem?_eq_getElem (by omega)];rfl);rw[scan,hd];by_cases e:(l.getD i Jc1).1=x;·grind
  rw[if_neg e,List.find?_cons_of_neg (by simpa using e)];exact Jve l x k (i+1) (by omega)
theorem Ju7 x (l:List Val) n i z:J3r_1_step x l n i z=(J8b (decide (i<n)) (need (0<=i/\i<(l.length:Int)) (J8b (decide ((l.getD (Int.toNat i) Jc1).1=x)) (some (.inr (.inl (true,l.getD (Int.toNat i) Jc1)))) (some (.inl (w64 (i+1)))))) (some (.inr (.inr z))):Option (Int⊕((Bool×Val)⊕Val))):=rfl
theorem Kdw(l:List Val)(hl:l.length<=1073741824) x:J3r l x=some (Ju6 l x):=by
 have h:J3r_1 x l (l.length:Int) 0 Jc1=some (scan (λi=>if(l.getD i Jc1).1=x then some (.inl (true,l.getD i Jc1))else none) (.inr Jc1) 0 l.length):=by
  refine Jc3 (step:=λ(s:Int)=>J3r_1_step x l (l.length:Int) s Jc1) (λi=>(i:Int)) _ _ l.length (λi hi h=> ?_) (λi r hi h=> ?_) ?_ l.length 0 (by omega)
  ·rw[Ju7,oT,oN,Int.toNat_natCast,oW];by_cases e:(l.getD i Jc1).1=x;·rw[if_pos e]at h;cases h
   rw[J93 e];rfl
  ·rw[Ju7,oT,oN,Int.toNat_natCast];by_cases e:(l.getD i Jc1).1=x;·rw[if_pos e]at h;injection h with h;subst h;rw[J8y e]
   rw[if_neg e]at h;cases h
  unfold J3r_1_step;rw[oF]
 unfold J3r;simp only[Jt8];rw[h,J8a,Jve l x l.length 0 (by omega)];unfold Ju6;grind
def Dist(l:List Val):Prop:=(l.map (·.1)).Nodup
theorem Kdx(hd:Dist l)(hv:v∈l):Ju6 l v.1=(v,true):=by
 have:l.find? (λw=>decide (w.1=v.1))=some v:=by
  induction l with
  |nil=>cases hv
  |cons w l ih=>
   unfold Dist at hd;rw[List.map_cons,List.nodup_cons]at hd;rcases List.mem_cons.1 hv with rfl|hv;·grind
   rw[List.find?_cons_of_neg];·exact ih hd.2 hv
   grind
 unfold Ju6;rw[this]
abbrev Pr:=List UInt8×List UInt8×Unit
def zPr:Pr:=([],[],())
abbrev PT:Ty:=.fld .str (.fld .str .unit)
theorem pbeq a b:Ty.beq PT a b=decide (a=b):=by rw[Bool.eq_iff_iff,Ty.beq_iff PT rfl a b,decide_eq_true_eq]
theorem Jk5:∀a b:List UInt8,J91 a b=false->a=b\/J91 b a=true
 |[],[],_=>.inl rfl
 |_::_,[],_=>.inr rfl
 |[],_::_,h=>by simp[J91]at h
 | x::a,y::b,h=>by
  simp only[J91,Bool.or_eq_false_iff,Bool.and_eq_false_iff,beq_eq_false_iff_ne]at h;obtain⟨h1,h2⟩:=h;by_cases e:x=y
  ·subst e;rcases Jk5 a b (h2.resolve_left (λq=>q rfl))with rfl|h
   ·exact .inl rfl
   exact .inr (by simp[J91,h])
  have:y<x:=(by grind);simp[J91,this]
theorem Jwf:∀a b:List UInt8,(Jwe a b<0)↔J91 a b=true
 |[],[]=>by simp[Jwe,Lib.compareBytes,J91]
 |[],_::_=>by simp[Jwe,Lib.compareBytes,J91]
 |_::_,[]=>by simp[Jwe,Lib.compareBytes,J91]
 |x::a,y::b=>by have ih:=Jwf a b;unfold Jwe at ih;unfold Jwe;rw[Lib.compareBytes,J91];grind
theorem Jr5:∀a b:List UInt8,(Jwe a b=0)↔a=b
 |[],[]=>by simp[Jwe,Lib.compareBytes]
 |[],_::_=>by simp[Jwe,Lib.compareBytes]
 |_::_,[]=>by simp[Jwe,Lib.compareBytes]
 |x::a,y::b=>by have ih:=Jr5 a b;unfold Jwe at ih;unfold Jwe;rw[Lib.compareBytes];grind
def J8j:List Pr->List UInt8->Nat
 |[],_=>0
 |p::r,k=>bif J91 p.1 k then J8j r k+1 else 0
theorem below_le:∀(l:List Pr) (k:List UInt8),J8j l k<=l.length
 |[],_=>Nat.le_refl _
 |p::r,k=>by have:=below_le r k;unfold J8j;grind
theorem Jhi:∀(l:List Pr) (k:List UInt8) (i:Nat),i<J8j l k->J91 (l.getD i zPr).1 k=true
 |[],_,i,h=>by unfold J8j at h;omega
 |p::r,k,i,h=>by unfold J8j at h;cases e:J91 p.1 k with|false=>rw[e,cond_false]at h;omega|true=>rw[e,cond_true]at h;match i with|0=>exact e|j+1=>exact Jhi r k j (by omega)
theorem Jm1:∀(l:List Pr) (k:List UInt8),J8j l k<l.length->J91 (l.getD (J8j l k) zPr).1 k=false
 |[],_,h=>by simp at h
 |p::r,k,h=>by unfold J8j at h⊢;cases e:J91 p.1 k with|false=>exact e|true=>rw[e,cond_true,List.length_cons]at h;exact Jm1 r k (by omega)
theorem K0v(l:List Pr) k (n:Nat) (hn:n<=l.length) (h1:∀i,i<n->J91 (l.getD i zPr).1 k=true) (h2:n<l.length->J91 (l.getD n zPr).1 k=false):J8j l k=n:=by
 rcases Nat.lt_trichotomy (J8j l k) n with h|h|h;·have a:=h1 _ h;rw[Jm1 l k (by omega)]at a;cases a
 ·exact h
 have a:=Jhi l k n h;have b:=below_le l k;grind
def Jaz(l:List Pr):Prop:=l.Pairwise (λa b=>J91 a.1 b.1=true)
theorem Jjh(h:Jaz l)(hij:i<j)(hj:j<l.length):J91 (l.getD i zPr).1 (l.getD j zPr).1=true:=by rw[List.getD_eq_getElem?_getD,List.getD_eq_getElem?_getD,List.getElem?_eq_getElem hj,List.getElem?_eq_getElem (by omega)];exact List.pairwise_iff_getElem.1 h i j (by omega) hj hij
theorem Jbj(h:Jaz l) k (hi:i<l.length):J91 (l.getD i zPr).1 k=true↔i<J8j l k:=by
 refine⟨λhs=> ?_,Jhi l k i⟩;apply Classical.byContradiction;intro hn;have b:=Jm1 l k (by omega);rcases Nat.lt_or_ge (J8j l k) i with c|c;·rw[Jau _ _ _ (Jjh h c hi) hs]at b;cases b
 grind
theorem K0u l a b (h:J91 a b=false):J8j l b<=J8j l a:=by
 apply Nat.le_of_not_lt;intro hc;have hl:=below_le l b;have h1:=Jhi l b _ hc;have h2:=Jm1 l a (by omega);rcases Jk5 a b h with rfl|q;·rw[h1]at h2;cases h2
 rw[Jau _ _ _ h1 q]at h2;cases h2
def Ji1(l:List Pr)(k:List UInt8):Bool:=decide (J8j l k<l.length/\(l.getD (J8j l k) zPr).1=k)
theorem Jzh(h:Jaz l) k:Ji1 l k=true↔∃p∈l,p.1=k:=by
 unfold Ji1;constructor;·grind
 rintro⟨p,hp,e⟩;obtain⟨i,hi,rfl⟩:=List.getElem_of_mem hp;have hg:l.getD i zPr=l[i]:=by rw[List.getD_eq_getElem?_getD,List.getElem?_eq_getElem hi];rfl
 have:J8j l k=i:=by
  refine K0v l k i (by omega) (λj hj=> ?_) λ_=> ?_;·rw[<-e,<-hg];exact Jjh h hj hi
  rw[hg,e];exact Je2 k
 grind
theorem mid_eq(i j:Nat)(h:i+j<=1073741824):w64 ((UInt64.toNat (UInt64.ofNat (UInt64.toNat (UInt64.ofNat (Int.toNat ((w64 ((i:Int)+(j:Int)))%18446744073709551616)))>>>(Int.toNat (1:Int)))):Nat):Int)=(((i+j) / 2:Nat):Int):=by
 rw[oX ((i:Int)+(j:Int))];have e1:Int.toNat (((i:Int)+(j:Int))%18446744073709551616)=i+j:=by omega
 have e2:UInt64.toNat (UInt64.ofNat (i+j))=i+j:=by rw[UInt64.toNat_ofNat'];omega
 have e3:(i+j)>>>(Int.toNat (1:Int))=(i+j) / 2:=rfl;have e4:UInt64.toNat (UInt64.ofNat ((i+j) / 2))=(i+j) / 2:=by rw[UInt64.toNat_ofNat'];omega
 rw[e1,e2,e3,e4,oW]
theorem Jv0(p:Pr) k:J6u p k=some (Jwe p.1 k):=rfl
theorem K39 x0 x1 (x2:Int) (x3:Int) (x4:Int):Ja_1_step x0 x1 x2 x3 x4=(J8b (decide (x3<x4)) (need (0<=(w64 ((UInt64.toNat (UInt64.ofNat (UInt64.toNat (UInt64.ofNat (Int.toNat ((w64 (x3+x4))%18446744073709551616)))>>>(Int.toNat (1:Int)))):Nat):Int))/\(w64 ((UInt64.toNat (UInt64.ofNat (UInt64.toNat (UInt64.ofNat (Int.toNat ((w64 (x3+x4))%18446744073709551616)))>>>(Int.toNat (1:Int)))):Nat):Int))<(List.length x0:Int)) (J89 (J6u (List.getD x0 (Int.toNat (w64 ((UInt64.toNat (UInt64.ofNat (UInt64.toNat (UInt64.ofNat (Int.toNat ((w64 (x3+x4))%18446744073709551616)))>>>(Int.toNat (1:Int)))):Nat):Int))) zPr) x1) (λu4=>J8b (decide (u4<(0:Int))) (some (.inl ((w64 ((w64 ((UInt64.toNat (UInt64.ofNat (UInt64.toNat (UInt64.ofNat (Int.toNat ((w64 (x3+x4))%18446744073709551616)))>>>(Int.toNat (1:Int)))):Nat):Int))+(1:Int))),x4))) (some (.inl (x3,(w64 ((UInt64.toNat (UInt64.ofNat (UInt64.toNat (UInt64.ofNat (Int.toNat ((w64 (x3+x4))%18446744073709551616)))>>>(Int.toNat (1:Int)))):Nat):Int)))))))) (some (.inr (x0,x1,x2,x3))):Option ((Int×Int)⊕((List Pr)×List UInt8×Int×Int))):=rfl
theorem Jwb(l:List Pr)(hr:Jaz l)(hl:l.length<=1000) k:∀(m i j:Nat),j - i<=m->i<=J8j l k->J8j l k<=j->j<=l.length->
  Ja_1 l k (l.length:Int) (i:Int) (j:Int)=some (l,k,(l.length:Int),(J8j l k:Int))
 | m,i,j,hm,h1,h2,h3=>by
  unfold Ja_1;by_cases c:i<j
  ·have hs:Ja_1_step l k (l.length:Int) (i:Int) (j:Int)=some (.inl (if(i+j) / 2<J8j l k then((((i+j) / 2+1:Nat):Int),(j:Int))else((i:Int),(((i+j) / 2:Nat):Int)))):=by
    rw[K39,oT,mid_eq i j (by omega),oN,Int.toNat_natCast,Jv0,J8a,oW];by_cases q:(i+j) / 2<J8j l k;·rw[if_pos q,J8y ((Jwf _ _).2 (Jhi l k _ q))];rfl
    rw[if_neg q,J93 (λe=>q ((Jbj hr k (by omega)).1 ((Jwf _ _).1 e)))]
   rw[J9l hs];match m with
   |0=>omega
   |m+1=>
    by_cases q:(i+j) / 2<J8j l k;·rw[if_pos q];exact Jwb l hr hl k m ((i+j) / 2+1) j (by omega) (by omega) h2 h3
    rw[if_neg q];exact Jwb l hr hl k m i ((i+j) / 2) (by omega) h1 (by omega) (by omega)
  have:i=J8j l k:=(by omega);subst this;exact J96 (by rw[K39,oF])
theorem Jju(l:List Pr)(hr:Jaz l)(hl:l.length<=1000) k:J6m l k=some ((J8j l k:Int),Ji1 l k):=by
 have hb:=below_le l k;have h:Ja l k=some ((J8j l k:Int),Ji1 l k):=by
  unfold Ja;rw[show((0:Int))=((0:Nat):Int)from rfl,Jwb l hr hl k l.length 0 l.length (by omega) (by omega) hb (Nat.le_refl _),J8a];simp only;unfold Ji1;by_cases c:J8j l k<l.length;·rw[oT,oN,Jv0,J8a];congr 2;exact decide_eq_decide.2 ⟨λe=>⟨c,(Jr5 _ _).1 e⟩,λe=>(Jr5 _ _).2 e.2⟩
  rw[oF,decide_eq_false (λe=>c e.1)]
 unfold J6m;rw[h,J8a]
theorem Jgy(l:List Pr)(hr:Jaz l)(hl:l.length<=1000) k:J65 l k=some (J8j l k:Int):=by unfold J65;rw[Jju l hr hl,J8a]
theorem Jft(l:List Pr)(hr:Jaz l)(hl:l.length<=1000) k:J4w l k=some (if Ji1 l k then((l.getD (J8j l k) zPr).2.1,true)else([],false)):=by unfold J4w;rw[Jju l hr hl,J8a];cases c:Ji1 l k with|false=>rfl|true=>have:=c;unfold Ji1 at this;rw[decide_eq_true_eq]at this;rw[oN];rfl
def Jw3(x:List UInt8):List UInt8:=Jep x.length++x
theorem Jg7(x:List UInt8):(Jw3 x).length<=x.length+7:=by have:=J9k (x.length:Int);unfold Jw3;rw[List.length_append];omega
theorem Jt4(l:List (List UInt8))(hl:l.length<=1000)(h:∀x∈l,x.length<=100000):J1x l=some (l.flatMap Jw3):=by
 have hlen:∀i,((l.take i).flatMap Jw3).length<=100007*i:=by
  intro i;have:∀(m:List (List UInt8)),(∀x∈m,x.length<=100000)->(m.flatMap Jw3).length<=100007*m.length:=by
   intro m;induction m with
   |nil=>intro _;simp
   |cons a m ih=>intro hm;have h1:=ih (λx hx=>hm x (List.mem_cons_of_mem _ hx));have h2:=hm a List.mem_cons_self;have h3:=Jg7 a;rw[List.flatMap_cons,List.length_append,List.length_cons];omega
  grind
 have main:J1x_1 l (l.length:Int) 0 []=some (l.flatMap Jw3):=by
  have:=J8p (step:=λ(s:Int×List UInt8)=>J1x_1_step l (l.length:Int) s.1 s.2) (λi (_:Unit)=>((i:Int),(l.take i).flatMap Jw3)) (λ_ _=>()) (λ_=>l.flatMap Jw3) l.length (λ_ _=>True) (λi w hi _=>⟨?_,trivial⟩) (λw _=> ?_) l.length 0 () (by omega) trivial;·exact this
  ·show J1x_1_step l (l.length:Int) (i:Int) ((l.take i).flatMap Jw3)=_;unfold J1x_1_step;have b:=hlen i;have hm:(l.getD i []).length<=100000:=h _ (Ja7 hi);have b2:=J9k ((l.getD i []).length:Int);rw[oT,oN,Int.toNat_natCast,K5e,J8a,oN,J8d (by rw[List.length_append];omega),oW,List.append_assoc,Jf0 Jw3 l [] hi];rfl
  unfold J1x_1_step;rw[oF,List.take_of_length_le (Nat.le_refl _)]
 unfold J1x;rw[main,J8a]
theorem Ke0(n:Nat)(h:n<=1000000000):J43 (n:Int)=some []:=by
 unfold J43;rw[oF,Int.sub_zero,oW];by_cases c:(0:Int)<(n:Int);·rw[J8y c,J8d ⟨rfl,rfl⟩,J8d (by rw[List.length_replicate];omega),oN];rfl
 rw[J93 c]
theorem K3i(l:List (List UInt8))(h:l.flatten.length<=1000000000)(hl:l.length<=1000000):Jf l=some l.flatten:=by
 have ht:∀i,((l.take i).flatten).length<=1000000000:=λi=>Nat.le_trans (Jej l i) h;have m1:Jf_1 l 0 l (l.length:Int) 0=some (l,(l.flatten.length:Int)):=by
  have:=J8p (step:=λ(s:Int×Int)=>Jf_1_step l s.1 l (l.length:Int) s.2) (λi (_:Unit)=>((((l.take i).flatten).length:Int),(i:Int))) (λ_ _=>()) (λ_=>(l,(l.flatten.length:Int))) l.length (λ_ _=>True) (λi w hi _=>⟨?_,trivial⟩) (λw _=> ?_) l.length 0 () (by omega) trivial;·exact this
  ·unfold Jf_1_step;have e:=congrArg List.length (getD_take l hi);rw[List.length_append]at e;have b:=ht (i+1);rw[oT,oN,Int.toNat_natCast,oW,oF,oW];congr 3;omega
  unfold Jf_1_step;rw[oF,List.take_of_length_le (Nat.le_refl _)]
 have m2:Jf_2 l (l.length:Int) 0 []=some l.flatten:=by
  unfold Jf_2;have:=J8p (step:=λ(s:Int×List UInt8)=>Jf_2_step l (l.length:Int) s.1 s.2) (λi (_:Unit)=>((i:Int),(l.take i).flatten)) (λ_ _=>()) (λ_=>l.flatten) l.length (λ_ _=>True) (λi w hi _=>⟨?_,trivial⟩) (λw _=> ?_) l.length 0 () (by omega) trivial;·exact this
  ·show Jf_2_step l (l.length:Int) (i:Int) ((l.take i).flatten)=_;unfold Jf_2_step;have e:=congrArg List.length (getD_take l hi);rw[List.length_append]at e;have b:=ht (i+1);rw[oT,oN,Int.toNat_natCast,oN,oW,getD_take l hi];rfl
  unfold Jf_2_step;rw[oF,List.take_of_length_le (Nat.le_refl _)]
 unfold Jf;rw[m1,J8a];simp only;rw[Ke0 _ h,J8a,m2,J8a]
def Jyb(v:Val):List UInt8:=Jw3 v.1++Jep v.2.1++v.2.2.1
def K6m(l:List Val):List UInt8:=Jep l.length++l.flatMap Jyb
def setH(l:List Val):List UInt8:=sha (86::K6m l)
def Jtg(l:List Val):Prop:=l.length<=1000/\∀v∈l,v.1.length<=100000/\v.2.2.1.length=32
theorem Jal l:(setH l).length=32:=J9z _
theorem K0d(h:v.1.length<=100000/\v.2.2.1.length=32):(Jyb v).length<=100100:=by have h1:=Jg7 v.1;have h2:=J9k v.2.1;unfold Jyb;grind
theorem K0e:∀(m:List Val),(∀v∈m,v.1.length<=100000/\v.2.2.1.length=32)->(m.flatMap Jyb).length<=100100*m.length
 |[],_=>by simp
 |a::m,hm=>by have h1:=K0e m λx hx=>hm x (List.mem_cons_of_mem _ hx);have h2:=K0d (hm a List.mem_cons_self);grind
theorem Jk3(h:Jtg l)(i:Nat):(Jep l.length++(l.take i).flatMap Jyb).length<=100100*1000+7:=by have h1:=J9k (l.length:Int);have h2:=K0e (l.take i) λv hv=>h.2 v (List.mem_of_mem_take hv);have h3:=h.1;grind
theorem Jkd x0 (x1:Int) (x2:Int) x3 x4:J1n_1_step x0 x1 x2 x3 x4=(J8b (decide (x2<x1)) (need (0<=x2/\x2<(List.length x0:Int)) (J89 (J1x ([(List.getD x0 (Int.toNat x2) Jc1).1]:List (List UInt8))) (λu6=>J89 (J18 ([(List.getD x0 (Int.toNat x2) Jc1).2.1]:List (Int))) (λu8=>J89 (J29 ([(List.getD x0 (Int.toNat x2) Jc1).2.2.1]:List (List UInt8))) (λu10=>J89 (Jf ([x4,u6,u8,u10]:List (List UInt8))) (λu12=>some (.inl ((w64 (x2+(1:Int))),u12)))))))) (some (.inr (x3,x4))):Option ((Int×List UInt8)⊕(List UInt8×List UInt8))):=rfl
theorem Jb7 l (h:Jtg l):J1n l=some (setH l):=by
 have hl:=h.1;have main:J1n_1 l (l.length:Int) 0 (List.replicate 32 0) (Jep l.length)=some (List.replicate 32 0,K6m l):=by
  unfold J1n_1;have:=J8p (step:=λ(s:Int×List UInt8)=>J1n_1_step l (l.length:Int) s.1 (List.replicate 32 0) s.2) (λi (_:Unit)=>((i:Int),Jep l.length++(l.take i).flatMap Jyb)) (λ_ _=>()) (λ_=>(List.replicate 32 0,K6m l)) l.length (λ_ _=>True) (λi w hi _=>⟨?_,trivial⟩) (λw _=> ?_) l.length 0 () (by omega) trivial;·grind
  ·have hv:=h.2 _ (Ja7 (z:=Jc1) hi);have b2:=K0d hv;rw[Jkd,oT,oN,Int.toNat_natCast,Jt4 _ (by simp) (by simp;exact hv.1),J8a,put_eq _ (by simp),J8a,Jx4 _ (by simp) (by simp;exact hv.2),J8a];have e:[Jep (l.length:Int)++(l.take i).flatMap Jyb,[(l.getD i Jc1).1].flatMap Jw3,Jd9 [(l.getD i Jc1).2.1],[(l.getD i Jc1).2.2.1].flatten].flatten=Jep (l.length:Int)++(l.take (i+1)).flatMap Jyb:=(by rw[Jf0 Jyb l Jc1 hi];simp[Jyb,Jd9,List.append_assoc]);have b3:=Jk3 h (i+1);rw[K3i _ (by rw[e];omega) (by simp),J8a,e,oW];rfl
  unfold J1n_1_step;rw[oF,List.take_of_length_le (Nat.le_refl _)];rfl
 have b:=Jk3 h l.length;rw[List.take_of_length_le (Nat.le_refl _)]at b;have b:(K6m l).length<=100100*1000+7:=b;have hp:Jd9 [(l.length:Int)]=Jep l.length:=by simp[Jd9]
 have hf:[K6m l].flatten=K6m l:=by simp
 unfold J1n;rw[put_eq _ (by simp),J8a,hp,main,J8a];simp only;rw[Jay _ _ (by rw[hf];omega) (by simp),hf];rfl
theorem Jss(x:List UInt8)(hx:x.length<=100000):J3t x=some (Jw3 x):=by have:=J9k (x.length:Int);unfold J3t;rw[Jer,J8a,oN];rfl
theorem Jd1 x0 (x1:Int) (x2:Int) x3 x4:Jp_1_step x0 x1 x2 x3 x4=(J8b (decide (x2<x1)) (need (0<=x2/\x2<(List.length x0:Int)) (J89 (J3t ((List.getD x0 (Int.toNat x2) Jc1).1)) (λu6=>need (List.length x4+List.length u6<=2147483648) (J89 (Jl ((List.getD x0 (Int.toNat x2) Jc1).2.1)) (λu9=>need (List.length (x4++u6)+List.length u9<=2147483648) (need (List.length ((x4++u6)++u9)+List.length (List.getD x0 (Int.toNat x2) Jc1).2.2.1<=2147483648) (some (.inl ((w64 (x2+(1:Int))),(((x4++u6)++u9)++(List.getD x0 (Int.toNat x2) Jc1).2.2.1)))))))))) (some (.inr (x3,x4))):Option ((Int×List UInt8)⊕(List UInt8×List UInt8))):=rfl
theorem Jdz l (h:Jtg l):Jp l=some (setH l):=by
 have hl:=h.1;have main:Jp_1 l (l.length:Int) 0 (List.replicate 32 0) (Jep l.length)=some (List.replicate 32 0,K6m l):=by
  unfold Jp_1;have:=J8p (step:=λ(s:Int×List UInt8)=>Jp_1_step l (l.length:Int) s.1 (List.replicate 32 0) s.2) (λi (_:Unit)=>((i:Int),Jep l.length++(l.take i).flatMap Jyb)) (λ_ _=>()) (λ_=>(List.replicate 32 0,K6m l)) l.length (λ_ _=>True) (λi w hi _=>⟨?_,trivial⟩) (λw _=> ?_) l.length 0 () (by omega) trivial;·rw[show((0:Int),Jep (l.length:Int))=(((0:Nat):Int),Jep (l.length:Int)++(l.take 0).flatMap Jyb)from by simp];exact this
  ·show Jp_1_step l (l.length:Int) (i:Int) (List.replicate 32 0) (Jep l.length++(l.take i).flatMap Jyb)=_;have hv:=h.2 _ (Ja7 (z:=Jc1) hi);have b:=Jk3 h i;have b1:=Jg7 (l.getD i Jc1).1;have b2:=J9k (l.getD i Jc1).2.1;rw[Jd1,oT,oN,Int.toNat_natCast,Jss _ hv.1,J8a,oN,Jer,J8a,J8d (by rw[@List.length_append _ (Jep _++_) _];omega),J8d (by rw[@List.length_append _ ((Jep _++_)++_) _,@List.length_append _ (Jep _++_) _];omega),oW,Jf0 Jyb l Jc1 hi];simp[Jyb]
  unfold Jp_1_step;rw[oF,List.take_of_length_le (Nat.le_refl _)];rfl
 have b:=Jk3 h l.length;rw[List.take_of_length_le (Nat.le_refl _)]at b;have b:(K6m l).length<=100100*1000+7:=b;have hf:[K6m l].flatten=K6m l:=by simp
 unfold Jp;rw[Jer,J8a,main,J8a];simp only;rw[J9x _ _ (by rw[hf];omega) (by simp),hf];rfl
def Jpc:Nat->Nat->Nat->Nat
 |0,k,n=>k
 |f+1,k,n=>if 2*k<n then Jpc f (2*k) n else k
def J8z(n:Nat):Nat:=Jpc 40 1 n
theorem Js9 k f:2*(2*k)*2^f=2*k*(2^f*2):=by grind
theorem K4y:∀(f k n:Nat),1<=k->k<n->n<=2*k*2^f->k<=Jpc f k n/\Jpc f k n<n/\n<=2*Jpc f k n
 |0,k,n,h1,h2,h3=>by simp at h3;exact⟨Nat.le_refl _,h2,h3⟩
 |f+1,k,n,h1,h2,h3=>by
  rw[Jpc];split;·rename_i h;have:=K4y f (2*k) n (by omega) h (by rw[Nat.pow_succ]at h3;rw[Js9];exact h3);exact⟨by omega,this.2⟩
  omega
theorem Jd3(n:Nat)(h:2<=n)(h2:n<=1099511627776):1<=J8z n/\J8z n<n/\n<=2*J8z n:=K4y 40 1 n (by omega) (by omega) (by omega)
theorem Jul:∀(f k n:Nat),n<=2*k*2^f->1<=k->n<=1073741824->k<=1073741824->J28_1 (n:Int) (k:Int)=some ((Jpc f k n:Nat):Int)
 |0,k,n,h,h1,h2,hk=>by refine J96 ?_;unfold J28_1_step;rw[oW,oF];rfl
 |f+1,k,n,h,h1,h2,hk=>by
  rw[Jpc];split;·rename_i hlt;rw[<-Jul f (2*k) n (by rw[Nat.pow_succ]at h;rw[Js9];exact h) (by omega) h2 (by omega)];have hs:J28_1_step (n:Int) (k:Int)=some (.inl ((2*k:Nat):Int)):=(by unfold J28_1_step;rw[oW,oW,oT,show(k:Int)*2=((2*k:Nat):Int)from by omega]);unfold J28_1;rw[J9l hs]
  rename_i hlt;refine J96 ?_;unfold J28_1_step;rw[oW,oF]
theorem left_eq(n:Nat)(h:n<=1073741824):J28 (n:Int)=some ((J8z n:Nat):Int):=by unfold J28;rw[show(1:Int)=((1:Nat):Int)from rfl,Jul 40 1 n (by omega) (by omega) h (by omega)];rfl
def Kal(l:List (List UInt8)):List UInt8:=if h:2<=l.length/\l.length<=1099511627776 then sha (1::(Kal (l.take (J8z l.length))++Kal (l.drop (J8z l.length))))else if l.length=0 then sha [2]else sha (0::l.getD 0 [])
termination_by l.length
decreasing_by
 ·have:=Jd3 l.length h.1 h.2;simp;omega
 ·have:=Jd3 l.length h.1 h.2;simp;omega
theorem Kn:∃f:List (List UInt8)->List UInt8,∀l,f l=if h:2<=l.length/\l.length<=1099511627776 then sha (1::(f (l.take (J8z l.length))++f (l.drop (J8z l.length))))else if l.length=0 then sha [2]else sha (0::l.getD 0 []):=⟨Kal,λl=>by rw[Kal]⟩
noncomputable def Jbv:List (List UInt8)->List UInt8:=Classical.choose Kn
theorem Jmd(l:List (List UInt8)):Jbv l=if h:2<=l.length/\l.length<=1099511627776 then sha (1::(Jbv (l.take (J8z l.length))++Jbv (l.drop (J8z l.length))))else if l.length=0 then sha [2]else sha (0::l.getD 0 []):=Classical.choose_spec Kn l
theorem Jax l:(Jbv l).length=32:=by
 rw[Jmd];split;·exact J9z _
 split<;>exact J9z _
def Jgw(a b:List UInt8):List UInt8:=sha (1::(a++b))
def K1g(x:List UInt8):List UInt8:=sha (0::x)
theorem Joo(l:List (List UInt8))(h:2<=l.length)(h2:l.length<=1099511627776):Jbv l=Jgw (Jbv (l.take (J8z l.length))) (Jbv (l.drop (J8z l.length))):=by rw[Jmd,dif_pos ⟨h,h2⟩];rfl
theorem Jha x:Jbv [x]=K1g x:=by rw[Jmd];rfl
theorem Jqi:Jbv []=sha [2]:=by rw[Jmd,dif_neg (by simp),if_pos (by simp)]
theorem Jrz(a b:List UInt8)(ha:a.length=32)(hb:b.length=32):J6g a b=some (Jgw a b):=by
 unfold J6g;have hf:[a,b].flatten=a++b:=by simp
 rw[Jay _ _ (by rw[hf,List.length_append];omega) (by simp),hf];rfl
def Small(l:List (List UInt8)):Prop:=∀x∈l,x.length<=1000000
theorem Jdo(h:Small l)(n:Nat):Small (l.take n):=λx hx=>h x (List.mem_of_mem_take hx)
theorem Jdn(h:Small l)(n:Nat):Small (l.drop n):=λx hx=>h x (List.mem_of_mem_drop hx)
theorem Jop:∀(k:Nat) (l:List (List UInt8)),l.length<k->l.length<=1000->Small l->J3h_f k l=some (Jbv l)
 |0,l,h,_,_=>by omega
 |k+1,l,h,h2,hl=>by rw[J3h_f];match l,h,h2,hl with|[],h,h2,hl=>rw[Jay _ _ (by simp) (by simp),Jqi];rfl|[x],h,h2,hl=>have hx:=hl x (by simp);have hf:[List.getD [x] (Int.toNat (0:Int)) []].flatten=x:=(by simp);rw[J93 (by simp),Jay _ _ (by rw[hf];omega) (by simp),hf,Jha];rfl|x::y::r,h,h2,hl=>have hn:2<=(x::y::r).length:=(by simp);generalize x::y::r=l at h h2 hl hn;obtain⟨b1,b2,b3⟩:=Jd3 l.length hn (by omega);rw[oF,oF,left_eq _ (by omega),J8a,oN,Jgr,Jbn,Int.toNat_natCast,Jop k (l.take (J8z l.length)) (by rw[List.length_take];omega) (by rw[List.length_take];omega) (Jdo hl _),J8a,oN,Jop k (l.drop (J8z l.length)) (by rw[List.length_drop];omega) (by rw[List.length_drop];omega) (Jdn hl _),J8a,Jrz _ _ (Jax _) (Jax _),J8a,Joo l hn (by omega)]
theorem Jsk(l:List (List UInt8))(h:l.length<64)(hl:Small l):J3h l=some (Jbv l):=Jop 64 l h (by omega) hl
noncomputable def Jbc:Nat->List (List UInt8)->Nat->List (List UInt8)
 |0,_,_=>[]
 |f+1,l,i=>if l.length<=1 then[]else if i<J8z l.length then Jbc f (l.take (J8z l.length)) i++[Jbv (l.drop (J8z l.length))]else Jbc f (l.drop (J8z l.length)) (i - J8z l.length)++[Jbv (l.take (J8z l.length))]
def J9p:Nat->Nat->Nat->List Bool
 |0,_,_=>[]
 |f+1,i,n=>if n<=1 then[]else if i<J8z n then true::J9p f i (J8z n)else false::J9p f (i - J8z n) (n - J8z n)
theorem Jhq:∀(f g:Nat) (l:List (List UInt8)) (i:Nat),l.length<=f+1->l.length<=g+1->l.length<=1000->Jbc f l i=Jbc g l i
 |0,g,l,i,h,_,_=>by cases g with|zero=>rfl|succ g=>rw[Jbc,Jbc,if_pos h]
 |f+1,0,l,i,_,h,_=>by rw[Jbc,Jbc,if_pos h]
 |f+1,g+1,l,i,h,h2,h3=>by
  rw[Jbc,Jbc];by_cases h1:l.length<=1;·rw[if_pos h1,if_pos h1]
  obtain⟨b1,b2,b3⟩:=Jd3 l.length (by omega) (by omega);rw[if_neg h1,if_neg h1,Jhq f g (l.take (J8z l.length)) i (by rw[List.length_take];omega) (by rw[List.length_take];omega) (by rw[List.length_take];omega),Jhq f g (l.drop (J8z l.length)) _ (by rw[List.length_drop];omega) (by rw[List.length_drop];omega) (by rw[List.length_drop];omega)]
theorem Jdl:∀(f:Nat) (l:List (List UInt8)) (i:Nat),l.length<=1000->(Jbc f l i).length=(J9p f i l.length).length
 |0,_,_,_=>rfl
 |f+1,l,i,h=>by
  rw[Jbc,J9p];by_cases h1:l.length<=1;·rw[if_pos h1,if_pos h1];rfl
  obtain⟨b1,b2,b3⟩:=Jd3 l.length (by omega) (by omega);rw[if_neg h1,if_neg h1];by_cases hi:i<J8z l.length;·rw[if_pos hi,if_pos hi,List.length_append,Jdl f _ _ (by rw[List.length_take];omega),List.length_take,Nat.min_eq_left (by omega)];simp
  rw[if_neg hi,if_neg hi,List.length_append,Jdl f _ _ (by rw[List.length_drop];omega)];simp
theorem Jdw:∀(f:Nat) (l:List (List UInt8)) (i:Nat),(Jbc f l i).length<=f
 |0,_,_=>by simp[Jbc]
 |f+1,l,i=>by
  rw[Jbc];split;·simp
  split;·have:=Jdw f (l.take (J8z l.length)) i;simp;omega
  have:=Jdw f (l.drop (J8z l.length)) (i - J8z l.length);simp;omega
theorem Jjs:∀(f:Nat) (l:List (List UInt8)) (i:Nat),∀x∈Jbc f l i,x.length=32
 |0,_,_,x,hx=>by simp[Jbc]at hx
 | f+1,l,i,x,hx=>by
  rw[Jbc]at hx;split at hx;·simp at hx
  split at hx
  ·rcases List.mem_append.1 hx with h|h;·exact Jjs f _ _ x h
   simp at h;rw[h];exact Jax _
  rcases List.mem_append.1 hx with h|h;·exact Jjs f _ _ x h
  simp at h;rw[h];exact Jax _
abbrev zT:List UInt8:=List.replicate 32 (0:UInt8)
def Jjx(a:List (List UInt8))(i:Nat):List (List UInt8):=(List.range a.length).map λj=>if j<i\/a.length - 1 - i<j then a.getD (a.length - 1 - j) zT else a.getD j zT
theorem Jc5(a:List (List UInt8))(i:Nat):(Jjx a i).length=a.length:=by simp[Jjx]
theorem Jf8(a:List (List UInt8)) i j (h:j<a.length):(Jjx a i).getD j zT=if j<i\/a.length - 1 - i<j then a.getD (a.length - 1 - j) zT else a.getD j zT:=by unfold Jjx;grind
theorem Jro{a b:List (List UInt8)}(hl:a.length=b.length)(h:∀j,j<a.length->a.getD j zT=b.getD j zT):a=b:=by apply List.ext_getElem hl;grind
theorem Jhn(a:List (List UInt8)) i j x (h:i<a.length):(a.set i x).getD j zT=if i=j then x else a.getD j zT:=by grind
theorem K22(a:List (List UInt8))(i:Nat)(h:i<a.length - 1 - i):((Jjx a i).set i ((Jjx a i).getD (a.length - 1 - i) zT)).set (a.length - 1 - i) ((Jjx a i).getD i zT)=Jjx a (i+1):=by apply Jro (by simp[Jc5]);intro j hj;rw[List.length_set,List.length_set,Jc5]at hj;rw[Jhn _ _ _ _ (by rw[List.length_set,Jc5];omega),Jhn _ _ _ _ (by rw[Jc5];omega),Jf8 a i _ (by omega),Jf8 a i _ (by omega),Jf8 a i j hj,Jf8 a (i+1) j hj];grind
theorem rev_eq(a:List (List UInt8))(ha:a.length<=1000000):Jm a=some a.reverse:=by
 have main:Jm_1 0 ((a.length:Int) - 1) a=some (Jjx a (a.length / 2)):=by
  have h0:Jjx a 0=a:=(by apply Jro (Jc5 a 0);intro j hj;rw[Jc5]at hj;rw[Jf8 a 0 j hj,oJ]);unfold Jm_1;have:=J8p (step:=λ(s:Int×Int×List (List UInt8))=>Jm_1_step s.1 s.2.1 s.2.2) (λi (_:Unit)=>((i:Int),(a.length:Int) - 1 - (i:Int),Jjx a i)) (λ_ _=>()) (λ_=>Jjx a (a.length / 2)) (a.length / 2) (λ_ _=>True) (λi w hi _=>⟨?_,trivial⟩) (λw _=> ?_) (a.length / 2) 0 () (by omega) trivial;·grind
  ·show Jm_1_step (i:Int) ((a.length:Int) - 1 - (i:Int)) (Jjx a i)=_;unfold Jm_1_step;have hl:=Jc5 a i;have e1:Int.toNat ((a.length:Int) - 1 - (i:Int))=a.length - 1 - i:=(by omega);rw[oT,oN,oN,List.length_set,oN,e1,Int.toNat_natCast,oW,oW,K22 a i (by omega),show(a.length:Int) - 1 - (i:Int) - 1=(a.length:Int) - 1 - ((i+1:Nat):Int)from by omega];rfl
  show Jm_1_step ((a.length / 2:Nat):Int) ((a.length:Int) - 1 - ((a.length / 2:Nat):Int)) (Jjx a (a.length / 2))=_;unfold Jm_1_step;rw[oF]
 unfold Jm;rw[oW,main,J8a];congr 1;apply Jro (by rw[Jc5,List.length_reverse]);intro j hj;rw[Jc5]at hj;rw[Jf8 a _ j hj];grind
theorem Jo9:∀(f:Nat) (l:List (List UInt8)) (i:Nat) (acc:List (List UInt8)),l.length<=f+1->l.length<64->i<l.length\/l.length=0->acc.length<=1000 - f->f<=100->Small l->J1t_1 l (i:Int) acc=some (acc++(Jbc f l i).reverse)
 |0,l,i,acc,h,h2,hi,ha,hf,hs=>by unfold J1t_1;refine J96 ?_;unfold J1t_1_step;rw[J93 (by show ¬(1:Int)<(l.length:Int);omega)];simp[Jbc]
 | f+1,l,i,acc,h,h2,hi,ha,hf,hs=>by
  by_cases h1:l.length<=1;·rw[Jbc,if_pos h1];unfold J1t_1;refine J96 ?_;unfold J1t_1_step;rw[J93 (by show ¬(1:Int)<(l.length:Int);omega)];simp
  obtain⟨b1,b2,b3⟩:=Jd3 l.length (by omega) (by omega);rw[Jbc,if_neg h1];by_cases hl:i<J8z l.length;·rw[if_pos hl,List.reverse_append,List.reverse_singleton,<-List.append_assoc];have hst:J1t_1_step l (i:Int) acc=some (.inl (l.take (J8z l.length),(i:Int),acc++[Jbv (l.drop (J8z l.length))])):=(by unfold J1t_1_step;rw[oT,left_eq _ (by omega),J8a,oT,oN,Jbn,Jgr,Int.toNat_natCast,Jsk _ (by rw[List.length_drop];omega) (Jdn hs _),J8a,J8d (by simp;omega),oN]);rw[<-Jo9 f (l.take (J8z l.length)) i (acc++[Jbv (l.drop (J8z l.length))]) (by rw[List.length_take];omega) (by rw[List.length_take];omega) (by rw[List.length_take];omega) (by simp;omega) (by omega) (Jdo hs _)];unfold J1t_1;rw[J9l hst]
  rw[if_neg hl,List.reverse_append,List.reverse_singleton,<-List.append_assoc];have hst:J1t_1_step l (i:Int) acc=some (.inl (l.drop (J8z l.length),((i - J8z l.length:Nat):Int),acc++[Jbv (l.take (J8z l.length))])):=by
   unfold J1t_1_step
   rw[oT,left_eq _ (by omega),J8a,oF,oN,Jbn,Jgr,Int.toNat_natCast,Jsk _ (by rw[List.length_take];omega) (Jdo hs _),J8a,J8d (by simp;omega),oN,oW,
    show(i:Int) - ((J8z l.length:Nat):Int)=((i - J8z l.length:Nat):Int)from by omega]
  rw[<-Jo9 f (l.drop (J8z l.length)) (i - J8z l.length) (acc++[Jbv (l.take (J8z l.length))]) (by rw[List.length_drop];omega) (by rw[List.length_drop];omega) (by rw[List.length_drop];omega) (by simp;omega) (by omega) (Jdn hs _)];unfold J1t_1;rw[J9l hst]
noncomputable def Jdg(l:List (List UInt8))(i:Int):List (List UInt8):=if 0<=i/\i<(l.length:Int)then Jbc l.length l i.toNat else[]
theorem K5p(l:List (List UInt8))(i:Int)(h:l.length<64)(hs:Small l):J1t l i=some (Jdg l i):=by
 unfold J1t Jdg;by_cases h0:i<0;·rw[J8y h0,oJ]
 rw[J93 h0];by_cases h1:(l.length:Int)<=i;·rw[J8y h1,oJ]
 rw[J93 h1,oI];obtain⟨k,rfl⟩:=Int.eq_ofNat_of_zero_le (show 0<=i by omega);have hl:=Jdw l.length l k;rw[Jo9 l.length l k [] (by omega) h (by omega) (by simp) (by omega) hs,J8a];simp;rw[rev_eq _ (by rw[List.length_reverse];omega),List.reverse_reverse];rfl
theorem Jl9:∀(f i n:Nat) (acc:List Bool),n<=f+1->n<=1073741824->i<n\/n=0->acc.length<=10000000 - f->f<=5000000->J1i_1 (i:Int) (n:Int) acc=some (acc++J9p f i n)
 |0,i,n,acc,h,h2,hi,ha,hf=>by unfold J1i_1;refine J96 ?_;unfold J1i_1_step;rw[J93 (by show ¬(1:Int)<(n:Int);omega)];simp[J9p]
 | f+1,i,n,acc,h,h2,hi,ha,hf=>by
  by_cases h1:n<=1;·rw[J9p,if_pos h1];unfold J1i_1;refine J96 ?_;unfold J1i_1_step;rw[J93 (by show ¬(1:Int)<(n:Int);omega)];simp
  obtain⟨b1,b2,b3⟩:=Jd3 n (by omega) (by omega);rw[J9p,if_neg h1];by_cases hl:i<J8z n;·rw[if_pos hl,show acc++true::J9p f i (J8z n)=(acc++[true])++J9p f i (J8z n)from by simp];have hst:J1i_1_step (i:Int) (n:Int) acc=some (.inl ((i:Int),((J8z n:Nat):Int),acc++[true])):=(by unfold J1i_1_step;rw[oT,left_eq _ (by omega),J8a,J8d (by simp;omega),decide_eq_true (show(i:Int)<((J8z n:Nat):Int)by omega),Jbt]);rw[<-Jl9 f i (J8z n) (acc++[true]) (by omega) (by omega) (by omega) (by simp;omega) (by omega)];unfold J1i_1;rw[J9l hst]
  rw[if_neg hl,show acc++false::J9p f (i - J8z n) (n - J8z n)=(acc++[false])++J9p f (i - J8z n) (n - J8z n)from by simp];have hst:J1i_1_step (i:Int) (n:Int) acc=some (.inl (((i - J8z n:Nat):Int),((n - J8z n:Nat):Int),acc++[false])):=by
   unfold J1i_1_step
   rw[oT,left_eq _ (by omega),J8a,J8d (by simp;omega),decide_eq_false (show ¬(i:Int)<((J8z n:Nat):Int)by omega),J8t,oW,oW,
    show(i:Int) - ((J8z n:Nat):Int)=((i - J8z n:Nat):Int)from by omega,show(n:Int) - ((J8z n:Nat):Int)=((n - J8z n:Nat):Int)from by omega]
  rw[<-Jl9 f (i - J8z n) (n - J8z n) (acc++[false]) (by omega) (by omega) (by omega) (by simp;omega) (by omega)];unfold J1i_1;rw[J9l hst]
theorem K01(i n:Nat)(h:i<n)(hn:n<=1000000):J1i (i:Int) (n:Int)=some (J9p n i n):=by unfold J1i;rw[Jl9 n i n [] (by omega) (by omega) (by omega) (by simp) (by omega)];rfl
def isS(i n:Int):Bool:=decide (0<=i)&&(decide (i<n)&&decide (n<=1048576))
theorem is_eq i n:J7s i n=some (isS i n):=by unfold J7s isS;simp only[Jm4];grind
theorem Jio i n:isS i n=true↔0<=i/\i<n/\n<=1048576:=by unfold isS;simp
theorem K8n(i n:Int)(hn:n<=1000000\/1048576<n):J7n i n=some (if isS i n then((J9p n.toNat i.toNat n.toNat).length:Int)else -1):=by unfold J7n;rw[is_eq,J8a];cases h:isS i n with|false=>rfl|true=>obtain⟨h1,h2,h3⟩:=(Jio i n).1 h;obtain⟨a,rfl⟩:=Int.eq_ofNat_of_zero_le h1;obtain⟨b,rfl⟩:=Int.eq_ofNat_of_zero_le (show 0<=n by omega);rw[K01 a b (by omega) (by omega)];rfl
def Jgq:List Bool->List (List UInt8)->List UInt8->List UInt8
 |b::bs,p::ps,h=>Jgq bs ps (if b then Jgw h p else Jgw p h)
 |_,_,h=>h
theorem Jdj:∀(bs:List Bool) (ps:List (List UInt8)) (h:List UInt8) (b:Bool) (p:List UInt8),bs.length=ps.length->Jgq (bs++[b]) (ps++[p]) h=if b then Jgw (Jgq bs ps h) p else Jgw p (Jgq bs ps h)
 |[],[],h,b,p,_=>rfl
 |x::bs,y::ps,h,b,p,e=>by show Jgq (bs++[b]) (ps++[p]) _=_;rw[Jdj bs ps _ b p (by simpa using e)];rfl
 |[],_::_,_,_,_,e=>by simp at e
 |_::_,[],_,_,_,e=>by simp at e
theorem Jr4:∀(bs:List Bool) (ps:List (List UInt8)) (h:List UInt8),h.length=32->(Jgq bs ps h).length=32
 |[],_,h,e=>by simpa[Jgq]using e
 |_::_,[],h,e=>by simpa[Jgq]using e
 |b::bs,p::ps,h,e=>by exact Jr4 bs ps _ (by split<;>exact J9z _)
theorem K0z(bs:List Bool)(ps:List (List UInt8)) h (i:Nat) (h1:i<bs.length) (h2:i<ps.length):Jgq (bs.take (i+1)) (ps.take (i+1)) h=if bs.getD i false then Jgw (Jgq (bs.take i) (ps.take i) h) (ps.getD i zT)else Jgw (ps.getD i zT) (Jgq (bs.take i) (ps.take i) h):=by rw[List.take_add_one,List.take_add_one,List.getElem?_eq_getElem h1,List.getElem?_eq_getElem h2,Option.toList_some,Option.toList_some,Jdj _ _ _ _ _ (by simp;omega)];grind
theorem Kg5(z h:List UInt8)(l:List Bool)(p:List (List UInt8))(hl:l.length=p.length)(hp:∀x∈p,x.length=32)(hh:h.length=32)(hb:p.length<=100000):J4s_1 p (p.length:Int) 0 z h l=some (z,Jgq l.reverse p h):=by
 have:=J8p (step:=λ(s:Int×List UInt8)=>J4s_1_step p (p.length:Int) s.1 z s.2 l) (λi (_:Unit)=>((i:Int),Jgq (l.reverse.take i) (p.take i) h)) (λ_ _=>()) (λ_=>(z,Jgq l.reverse p h)) p.length (λ_ _=>True) (λi w hi _=>⟨?_,trivial⟩) (λw _=> ?_) p.length 0 () (by omega) trivial;·exact this
 ·unfold J4s_1_step;have hg:(p.getD i (List.replicate 32 0)).length=32:=by grind
  have hc:=Jr4 (l.reverse.take i) (p.take i) h hh;have hr:l.getD (l.length - 1 - i) false=l.reverse.getD i false:=by grind
  rw[oT,oN,oX ((l.length:Int) - 1),oW,oN,show Int.toNat ((l.length:Int) - 1 - (i:Int))=l.length - 1 - i from by omega,hr,Int.toNat_natCast,Jrz _ _ hc hg,Jrz _ _ hg hc,J8a,J8a,oW,
   K0z _ _ _ _ (by rw[List.length_reverse];omega) hi]
  cases l.reverse.getD i false<;>rfl
 unfold J4s_1_step;rw[oF,List.take_of_length_le (Nat.le_refl _),List.take_of_length_le (by rw[List.length_reverse];omega)]
def upS(leaf:List UInt8)(i n:Int)(p:List (List UInt8)):List UInt8×Bool:=if isS i n/\p.length=(J9p n.toNat i.toNat n.toNat).length then(Jgq (J9p n.toNat i.toNat n.toNat).reverse p (K1g leaf),true)else(zT,false)
theorem up_eq(leaf:List UInt8)(hf:leaf.length<=1000000) i n (hn:n<=1000000) (p:List (List UInt8)) (hp:∀x∈p,x.length=32) (hb:p.length<=100000):J4s leaf i n p=some (upS leaf i n p):=by
 unfold J4s upS;rw[is_eq,J8a];cases h:isS i n with
 |false=>rw[if_neg (by simp)];rfl
 |true=>
  obtain⟨h1,h2,h3⟩:=(Jio i n).1 h;rw[show(!true)=false from rfl,J8t,K8n i n (.inl hn),h,if_pos rfl,J8a];by_cases e:p.length=(J9p n.toNat i.toNat n.toNat).length;·rw[Jd2 (by omega),if_pos ⟨rfl,e⟩,Jsk [leaf] (by simp) (by intro x hx;simp at hx;rw[hx];exact hf),J8a];have hsd:=K01 i.toNat n.toNat (by omega) (by omega);rw[show((i.toNat:Nat):Int)=i from by omega,show((n.toNat:Nat):Int)=n from by omega]at hsd;rw[hsd,J8a,Kg5 _ _ _ _ e.symm hp (Jax _) hb,J8a,Jha]
  rw[Jdt (by omega),if_neg (λh=>e h.2)]
theorem Js7:∀(f:Nat) (l:List (List UInt8)) (i:Nat),i<l.length->l.length<=f+1->l.length<=1000->Jgq (J9p f i l.length).reverse (Jbc f l i) (K1g (l.getD i []))=Jbv l
 |0,l,i,hi,h,h2=>by match l,hi,h with|[x],hi,h=>have:i=0:=(by simp at hi;exact hi);subst this;rw[Jha];rfl
 |f+1,l,i,hi,h,h2=>by
  rw[J9p,Jbc];by_cases h1:l.length<=1;·match l,hi,h1 with|[x],hi,h1=>have:i=0:=(by simp at hi;exact hi);subst this;rw[Jha];rfl
  obtain⟨b1,b2,b3⟩:=Jd3 l.length (by omega) (by omega);rw[if_neg h1,if_neg h1,Joo l (by omega) (by omega)];by_cases hl:i<J8z l.length;·rw[if_pos hl,if_pos hl,List.reverse_cons,Jdj _ _ _ _ _ (by rw[List.length_reverse,Jdl f _ _ (by rw[List.length_take];omega),List.length_take,Nat.min_eq_left (by omega)]),if_pos rfl];have ih:=Js7 f (l.take (J8z l.length)) i (by rw[List.length_take];omega) (by rw[List.length_take];omega) (by rw[List.length_take];omega);grind
  rw[if_neg hl,if_neg hl,List.reverse_cons,Jdj _ _ _ _ _ (by rw[List.length_reverse,Jdl f _ _ (by rw[List.length_drop];omega),List.length_drop]),if_neg (by simp)];have ih:=Js7 f (l.drop (J8z l.length)) (i - J8z l.length) (by rw[List.length_drop];omega) (by rw[List.length_drop];omega) (by rw[List.length_drop];omega);grind
theorem Jud:∀(f k n:Nat),n<=2*k*2^f->1<=k->n<=1073741824->k<=1073741824->J0k_1 (n:Int) (k:Int)=some ((Jpc f k n:Nat):Int)
 |0,k,n,h,h1,h2,hk=>by refine J96 ?_;unfold J0k_1_step;rw[oW,oF];rfl
 |f+1,k,n,h,h1,h2,hk=>by
  rw[Jpc];split;·rename_i hlt;rw[<-Jud f (2*k) n (by rw[Nat.pow_succ]at h;rw[Js9];exact h) (by omega) h2 (by omega)];have hs:J0k_1_step (n:Int) (k:Int)=some (.inl ((2*k:Nat):Int)):=(by unfold J0k_1_step;rw[oW,oT,show 2*(k:Int)=((2*k:Nat):Int)from by omega]);unfold J0k_1;rw[J9l hs]
  rename_i hlt;refine J96 ?_;unfold J0k_1_step;rw[oW,oF]
theorem Jx3(n:Nat)(h:n<=1073741824):J0k (n:Int)=some ((J8z n:Nat):Int):=by unfold J0k;rw[show(1:Int)=((1:Nat):Int)from rfl,Jud 40 1 n (by omega) (by omega) h (by omega)];rfl
theorem Jon(a b:List UInt8)(ha:a.length=32)(hb:b.length=32):Jb 1 [a,b]=some (Jgw a b):=by
 have hf:[a,b].flatten=a++b:=by simp
 rw[J9x _ _ (by rw[hf,List.length_append];omega) (by simp),hf];rfl
theorem Kaj(x:List UInt8)(hx:x.length<=1000000):Jb 0 [x]=some (K1g x):=by
 have hf:[x].flatten=x:=by simp
 rw[J9x _ _ (by rw[hf];omega) (by simp),hf];rfl
theorem Jl4:∀(k:Nat) (l:List (List UInt8)),l.length<k->l.length<=1000->Small l->J0p_f k l=some (Jbv l)
 |0,l,h,_,_=>by omega
 |k+1,l,h,h2,hl=>by rw[J0p_f];match l,h,h2,hl with|[],h,h2,hl=>rw[J9x _ _ (by simp) (by simp),Jqi];rfl|[x],h,h2,hl=>have hx:=hl x (by simp);have hf:[List.getD [x] (Int.toNat (0:Int)) []].flatten=x:=(by simp);rw[J93 (by simp),J9x _ _ (by rw[hf];omega) (by simp),hf,Jha];rfl|x::y::r,h,h2,hl=>have hn:2<=(x::y::r).length:=(by simp);generalize x::y::r=l at h h2 hl hn;obtain⟨b1,b2,b3⟩:=Jd3 l.length hn (by omega);rw[oF,oF,Jx3 _ (by omega),J8a,oN,Jgr,Jbn,Int.toNat_natCast,Jl4 k (l.take (J8z l.length)) (by rw[List.length_take];omega) (by rw[List.length_take];omega) (Jdo hl _),J8a,oN,Jl4 k (l.drop (J8z l.length)) (by rw[List.length_drop];omega) (by rw[List.length_drop];omega) (Jdn hl _),J8a,Jon _ _ (Jax _) (Jax _),J8a,Joo l hn (by omega)]
theorem Jk0(l:List (List UInt8))(h:l.length<64)(hl:Small l):J0p l=some (Jbv l):=Jl4 64 l h (by omega) hl
theorem Jl3:∀(k:Nat) (l:List (List UInt8)) (i:Int),l.length<k->l.length<64->Small l->J1f_f k l i=some (if 0<=i/\i<(l.length:Int)then Jbc l.length l i.toNat else[])
 |0,l,i,h,_,_=>by omega
 | k+1,l,i,h,h2,hl=>by
  rw[J1f_f];by_cases h0:i<0;·rw[J8y h0,oJ]
  rw[J93 h0];by_cases h1:(l.length:Int)<=i;·rw[J8y h1,oJ]
  rw[J93 h1,oI];by_cases h3:l.length=1;·rw[oT,h3,Jbc,oI]
  rw[oF,Jx3 _ (by omega),J8a];obtain⟨b1,b2,b3⟩:=Jd3 l.length (by omega) (by omega);obtain⟨q,hq⟩:∃q,l.length=q+1:=⟨l.length - 1,by omega⟩;have hp:Jbc l.length l i.toNat=if i.toNat<J8z l.length then Jbc q (l.take (J8z l.length)) i.toNat++[Jbv (l.drop (J8z l.length))]else Jbc q (l.drop (J8z l.length)) (i.toNat - J8z l.length)++[Jbv (l.take (J8z l.length))]:=by
   conv=>lhs;rw[hq]
   rw[Jbc,oJ]
  rw[hp];by_cases h4:i.toNat<J8z l.length;·have lt:(l.take (J8z l.length)).length=J8z l.length:=(by rw[List.length_take];omega);have hpl:=Jdw q (l.take (J8z l.length)) i.toNat;rw[if_pos h4,oT,oN,Jgr,Jbn,Int.toNat_natCast,Jl3 k (l.take (J8z l.length)) i (by omega) (by omega) (Jdo hl _),J8a,oI,oN,Jk0 _ (by rw[List.length_drop];omega) (Jdn hl _),J8a,Jhq _ q _ _ (by omega) (by omega) (by omega),J8d (by simp;omega)]
  have ld:(l.drop (J8z l.length)).length=l.length - J8z l.length:=(by rw[List.length_drop]);have hpl:=Jdw q (l.drop (J8z l.length)) (i.toNat - J8z l.length)
  rw[if_neg h4,oF,oN,Jgr,Jbn,Int.toNat_natCast,oW,Jl3 k (l.drop (J8z l.length)) (i - ((J8z l.length:Nat):Int)) (by omega) (by omega) (Jdn hl _),J8a,oI,oN,Jk0 _ (by rw[List.length_take];omega) (Jdo hl _),J8a,
   show Int.toNat (i - ((J8z l.length:Nat):Int))=i.toNat - J8z l.length from by omega,Jhq _ q _ _ (by omega) (by omega) (by omega),J8d (by simp;omega)]
theorem Kr(l:List (List UInt8))(i:Int)(h:l.length<64)(hl:Small l):J1f l i=some (Jdg l i):=Jl3 64 l i h h hl
theorem Jg4:∀(f g i n:Nat),n<=f+1->n<=g+1->n<=1000->J9p f i n=J9p g i n
 |0,g,i,n,h,_,_=>by cases g with|zero=>rfl|succ g=>rw[J9p,J9p,if_pos h]
 |f+1,0,i,n,_,h,_=>by rw[J9p,J9p,if_pos h]
 |f+1,g+1,i,n,h,h2,h3=>by
  rw[J9p,J9p];by_cases h1:n<=1;·rw[if_pos h1,if_pos h1]
  obtain⟨b1,b2,b3⟩:=Jd3 n (by omega) (by omega);rw[if_neg h1,if_neg h1,Jg4 f g i (J8z n) (by omega) (by omega) (by omega),Jg4 f g (i - J8z n) (n - J8z n) (by omega) (by omega) (by omega)]
theorem Jsu:∀(k:Nat) (leaf:List UInt8) (i n:Nat) (p:List (List UInt8)),n<k->i<n->n<64->leaf.length<=1000000->(∀x∈p,x.length=32)->p.length<=100000->
  ∃x,J1e_f k leaf (i:Int) (n:Int) p=some (x,decide (p.length=(J9p n i n).length))/\x.length=32/\(p.length=(J9p n i n).length->x=Jgq (J9p n i n).reverse p (K1g leaf))
 |0,leaf,i,n,p,h,_,_,_,_,_=>by omega
 | k+1,leaf,i,n,p,h,hi,h2,hf,hp,hb=>by
  rw[J1e_f,oF,oF,oF];by_cases h1:n=1
  ·subst h1;rw[oT,Kaj leaf hf,J8a];have e:J9p 1 i 1=[]:=(by rw[J9p,oI]);rw[e];refine⟨K1g leaf, ?_,J9z _,λh=> ?_⟩;·rw[show decide ((p.length:Int)=0)=decide (p.length=([]:List Bool).length)from decide_eq_decide.2 (by simp)]
   have:p=[]:=List.eq_nil_of_length_eq_zero (by simpa using h);subst this;rfl
  obtain⟨b1,b2,b3⟩:=Jd3 n (by omega) (by omega);obtain⟨q,rfl⟩:∃q,n=q+1:=⟨n - 1,by omega⟩;have hsd:J9p (q+1) i (q+1)=if i<J8z (q+1)then true::J9p q i (J8z (q+1))else false::J9p q (i - J8z (q+1)) (q+1 - J8z (q+1)):=by rw[J9p,oJ]
  rw[oF];by_cases h0:p.length=0
  ·rw[oT];refine⟨zT, ?_,by simp,λh=> ?_⟩;·rw[decide_eq_false (by rw[hsd];split<;>simp[h0])]
   exfalso;rw[hsd]at h;split at h<;>simp[h0]at h
  have hpl:p=p.take (p.length - 1)++[p.getD (p.length - 1) zT]:=by
   rw[List.getD_eq_getElem?_getD,List.getElem?_eq_getElem (by omega)];conv=>lhs;rw[<-List.take_append_drop (p.length - 1) p,List.drop_eq_getElem_cons (by omega),List.drop_of_length_le (by omega)]
   rfl
  have hg:(p.getD (p.length - 1) (List.replicate 32 0)).length=32:=(by rw[List.getD_eq_getElem?_getD,List.getElem?_eq_getElem (by omega)];exact hp _ (List.getElem_mem _));have hpt:∀x∈p.take (p.length - 1),x.length=32:=λx hx=>hp x (List.mem_of_mem_take hx);have htl:(p.take (p.length - 1)).length=p.length - 1:=(by rw[List.length_take];omega);have e1:w64 ((p.length:Int) - 1)=((p.length - 1:Nat):Int):=(by rw[oW];omega);rw[oF,Jx3 (q+1) (by omega),J8a,e1,oN,Jgr,Int.toNat_natCast];by_cases h4:i<J8z (q+1)
  ·obtain⟨x,x1,x2,x3⟩:=Jsu k leaf i (J8z (q+1)) (p.take (p.length - 1)) (by omega) h4 (by omega) hf hpt (by omega);rw[Jg4 _ q _ _ (by omega) (by omega) (by omega)]at x1 x3;rw[oT,oN,x1,J8a];simp only;rw[Jon _ _ x2 hg,J8a,hsd,if_pos h4];refine⟨Jgw x (p.getD (p.length - 1) (List.replicate 32 0)), ?_,J9z _,λh=> ?_⟩;·rw[show decide ((p.take (p.length - 1)).length=(J9p q i (J8z (q+1))).length)=decide (p.length=(true::J9p q i (J8z (q+1))).length)from decide_eq_decide.2 (by rw[htl,List.length_cons];omega)]
   rw[List.length_cons]at h;rw[x3 (by omega),List.reverse_cons];conv=>rhs;rw[hpl]
   rw[Jdj _ _ _ _ _ (by rw[List.length_reverse];omega),if_pos rfl]
  obtain⟨x,x1,x2,x3⟩:=Jsu k leaf (i - J8z (q+1)) (q+1 - J8z (q+1)) (p.take (p.length - 1)) (by omega) (by omega) (by omega) hf hpt (by omega);rw[Jg4 _ q _ _ (by omega) (by omega) (by omega)]at x1 x3;rw[oF,oN,oW,oW,show(i:Int) - ((J8z (q+1):Nat):Int)=((i - J8z (q+1):Nat):Int)from by omega,show((q+1:Nat):Int) - ((J8z (q+1):Nat):Int)=((q+1 - J8z (q+1):Nat):Int)from by omega,x1,J8a];simp only;rw[Jon _ _ hg x2,J8a,hsd,if_neg h4];refine⟨Jgw (p.getD (p.length - 1) (List.replicate 32 0)) x, ?_,J9z _,λh=> ?_⟩;·rw[show decide ((p.take (p.length - 1)).length=(J9p q (i - J8z (q+1)) (q+1 - J8z (q+1))).length)=decide (p.length=(false::J9p q (i - J8z (q+1)) (q+1 - J8z (q+1))).length)from decide_eq_decide.2 (by rw[htl,List.length_cons];omega)]
  rw[List.length_cons]at h;rw[x3 (by omega),List.reverse_cons];conv=>rhs;rw[hpl]
  rw[Jdj _ _ _ _ _ (by rw[List.length_reverse];omega),if_neg (by simp)]
theorem Kch(leaf:List UInt8)(hf:leaf.length<=1000000) i n (hn:n<64) (p:List (List UInt8)) (hp:∀x∈p,x.length=32) (hb:p.length<=100000):∃x,J1e leaf i n p=some (x,(upS leaf i n p).2)/\((upS leaf i n p).2=true->x=(upS leaf i n p).1)/\x.length=32:=by
 unfold J1e;by_cases h0:i<0;·rw[J1e_f,J8y h0];have:upS leaf i n p=(zT,false):=if_neg (λh=>by have:=(Jio i n).1 h.1;omega);rw[this];exact⟨_,rfl,λh=>(by cases h),rfl⟩
 by_cases h1:n<=i;·rw[J1e_f,J93 h0,J8y h1];have:upS leaf i n p=(zT,false):=if_neg (λh=>by have:=(Jio i n).1 h.1;omega);rw[this];exact⟨_,rfl,λh=>(by cases h),rfl⟩
 obtain⟨a,rfl⟩:=Int.eq_ofNat_of_zero_le (show 0<=i by omega);obtain⟨b,rfl⟩:=Int.eq_ofNat_of_zero_le (show 0<=n by omega);obtain⟨x,x1,x2,x3⟩:=Jsu 64 leaf a b p (by omega) (by omega) (by omega) hf hp hb;have hi:isS (a:Int) (b:Int)=true:=(Jio _ _).2 (by omega);unfold upS;simp only[Int.toNat_natCast,hi,true_and];by_cases e:p.length=(J9p b a b).length;·rw[if_pos e];rw[decide_eq_true e]at x1;exact⟨x,x1,λ_=>x3 e,x2⟩
 rw[if_neg e];rw[decide_eq_false e]at x1;exact⟨x,x1,λh=>(by cases h),x2⟩
abbrev Prf:=Int×Int×List Pr×List (List (List UInt8))×Unit
def Jh0(p:Pr):List UInt8:=Jw3 p.1++Jw3 p.2.1
def J98(l:List Pr):List (List UInt8):=l.map Jh0
def Jyh(l:List Pr):Prop:=l.length<=60/\∀p∈l,p.1.length<=100000/\p.2.1.length<=100000
theorem J9i(l:List Pr):(J98 l).length=l.length:=by simp[J98]
theorem Jjj(h:p.1.length<=100000/\p.2.1.length<=100000):(Jh0 p).length<=200100:=by have a:=Jg7 p.1;have b:=Jg7 p.2.1;unfold Jh0;rw[List.length_append];omega
theorem Jdd(h:Jyh l):Small (J98 l):=by intro x hx;obtain⟨p,hp,rfl⟩:=List.mem_map.1 hx;have:=Jjj (h.2 p hp);omega
theorem Jxb(p:Pr)(h:p.1.length<=100000/\p.2.1.length<=100000):J6s p=some (Jh0 p):=by
 have:=Jt4 [p.1,p.2.1] (by simp) (λx hx=>by
  rcases List.mem_cons.1 hx with rfl|hx;·exact h.1
  rcases List.mem_cons.1 hx with rfl|hx;·exact h.2
  cases hx)
 have e:([p.1,p.2.1]:List (List UInt8)).flatMap Jw3=Jh0 p:=by simp[Jh0]
 rw[e]at this;unfold J6s;rw[this,J8a]
theorem Jh1(l:List Pr)(hi:i<l.length):J98 (l.take i)++[Jh0 (l.getD i zPr)]=J98 (l.take (i+1)):=by unfold J98;rw[List.take_add_one,List.map_append,List.getD_eq_getElem?_getD,List.getElem?_eq_getElem hi];rfl
theorem Jqo x0 (x1:Int) (x2:Int) x3 (x4:Int) (x5:Int) (x6:Int) (x7:Int) x8 (x9:Int) (x10:Int) x11 x12:J0z_1_step x0 x1 x2 x3 x4 x5 x6 x7 x8 x9 x10 x11 x12=(J8b (decide (x5<x4)) (need (0<=x5/\x5<(List.length x3:Int)) (J89 (J6s (List.getD x3 (Int.toNat x5) zPr)) (λu5=>need (List.length x12+List.length ([u5]:List (List UInt8))<=2147483648) (some (.inl ((w64 (x5+(1:Int))),(x12++([u5]:List (List UInt8))))))))) (some (.inr (x0,x1,x2,x6,x7,x8,x9,x10,x11,x12))):Option ((Int×List (List UInt8))⊕((List Pr)×Int×Int×Int×Int×Unit×Int×Int×Unit×List (List UInt8)))):=rfl
theorem Jqp x0 (x1:Int) (x2:Int) (x3:Int) (x4:Int) x5 (x6:Int) (x7:Int) x8 x9 x10 x11:J0z_2_step x0 x1 x2 x3 x4 x5 x6 x7 x8 x9 x10 x11=(J8b (decide (x2<x1)) (need (0<=x2/\x2<(List.length x0:Int)) (need (List.length x9+List.length ([(List.getD x0 (Int.toNat x2) zPr)]:List Pr)<=2147483648) (J89 (J1t x11 x2) (λu14=>need (List.length x10+List.length ([u14]:List (List (List UInt8)))<=2147483648) (some (.inl ((w64 (x2+(1:Int))),(x9++([(List.getD x0 (Int.toNat x2) zPr)]:List Pr)),(x10++([u14]:List (List (List UInt8))))))))))) (some (.inr (x3,x4,x5,x6,x7,x8,x9,x10))):Option ((Int×(List Pr)×List (List (List UInt8)))⊕(Int×Int×Unit×Int×Int×Unit×(List Pr)×List (List (List UInt8))))):=rfl
noncomputable def Jd8(l:List Pr)(f n:Nat):List (List (List UInt8)):=(List.range n).map λj=>Jdg (J98 l) ((f+j:Nat):Int)
noncomputable def Jb6(l:List Pr)(f t:Nat):Prf:=if t<=f then((l.length:Int),0,[],[],())else((l.length:Int),(f:Int),(l.drop f).take (t - f),Jd8 l f (t - f),())
theorem Jxp l f n:Jd8 l f (n+1)=Jd8 l f n++[Jdg (J98 l) ((f+n:Nat):Int)]:=by unfold Jd8;rw[List.range_succ,List.map_append];rfl
theorem Ji6(l:List Pr)(h:f+n<l.length):(l.drop f).take (n+1)=(l.drop f).take n++[l.getD (f+n) zPr]:=by rw[List.take_add_one,List.getElem?_drop,List.getD_eq_getElem?_getD,List.getElem?_eq_getElem h];rfl
theorem K8(l:List Pr)(h:Jyh l) a b:J0z l a b=some (Jb6 l (max a 0).toNat (min b (l.length:Int)).toNat):=by
 have hl:=h.1;unfold J0z;by_cases c:min b (l.length:Int)<=max a 0;·rw[J8y c];unfold Jb6;rw[oI]
 rw[J93 c];have ef:max a 0=(((max a 0).toNat:Nat):Int):=by omega
 have et:min b (l.length:Int)=(((min b (l.length:Int)).toNat:Nat):Int):=by omega
 generalize hF:(max a 0).toNat=F at*
 generalize hT:(min b (l.length:Int)).toNat=T at*
 rw[ef,et];rw[ef,et]at c;have hFT:F<T:=by omega
 have hTl:T<=l.length:=by omega
 clear hF hT ef et c;have m1:J0z_1 l (F:Int) (T:Int) l (l.length:Int) 0 0 0 () (l.length:Int) 0 () []=some (l,(F:Int),(T:Int),0,0,(),(l.length:Int),0,(),J98 l):=by
  unfold J0z_1;have:=J8p (step:=λ(s:Int×List (List UInt8))=>J0z_1_step l (F:Int) (T:Int) l (l.length:Int) s.1 0 0 () (l.length:Int) 0 () s.2) (λi (_:Unit)=>((i:Int),J98 (l.take i))) (λ_ _=>()) (λ_=>(l,(F:Int),(T:Int),0,0,(),(l.length:Int),0,(),J98 l)) l.length (λ_ _=>True) (λi w hi _=>⟨?_,trivial⟩) (λw _=> ?_) l.length 0 () (by omega) trivial;·exact this
  ·rw[Jqo,oT,oN,Int.toNat_natCast,Jxb _ (h.2 _ (Ja7 hi)),J8a,J8d (by rw[J9i,List.length_take];simp;omega),Jh1 l hi,oW];rfl
  rw[Jqo,oF,List.take_of_length_le (Nat.le_refl _)]
 have m2:J0z_2 l (T:Int) (F:Int) 0 0 () (l.length:Int) (F:Int) () [] [] (J98 l)=some (0,0,(),(l.length:Int),(F:Int),(),(l.drop F).take (T - F),Jd8 l F (T - F)):=by
  unfold J0z_2;have:=J8p (step:=λ(s:Int×(List Pr)×List (List (List UInt8)))=>J0z_2_step l (T:Int) s.1 0 0 () (l.length:Int) (F:Int) () s.2.1 s.2.2 (J98 l)) (λi (_:Unit)=>(((F+i:Nat):Int),(l.drop F).take i,Jd8 l F i)) (λ_ _=>()) (λ_=>(0,0,(),(l.length:Int),(F:Int),(),(l.drop F).take (T - F),Jd8 l F (T - F))) (T - F) (λ_ _=>True) (λi w hi _=>⟨?_,trivial⟩) (λw _=> ?_) (T - F) 0 () (by omega) trivial;·exact this
  ·have e1:((l.drop F).take i).length<=60:=(by rw[List.length_take,List.length_drop];omega);have e2:(Jd8 l F i).length=i:=(by simp[Jd8]);rw[Jqp,oT,oN,Int.toNat_natCast,J8d (by simp;omega),K5p (J98 l) _ (by rw[J9i];omega) (Jdd h),J8a,J8d (by simp;omega),oW,<-Ji6 l (by omega),<-Jxp];congr 3
  rw[Jqp,oF]
 rw[m1,J8a];simp only;rw[m2,J8a];unfold Jb6;rw[oJ]
theorem Jsf(l:List Pr)(h:Jyh l)(hr:Jaz l) a b:J6q l a b=some (Jb6 l (J8j l a - 1) (min (J8j l (maxS a b)+1) l.length)):=by have hl:=h.1;have h1:=below_le l a;have h2:=below_le l (maxS a b);unfold J6q;rw[Jgy l hr (by omega),J8a,Jgy l hr (by omega),J8a,oW,oW,K8 l h,J8a];congr 2<;>omega
theorem Jz5 l (h:Jyh l) (hr:Jaz l) k:J7f l k=some (if Ji1 l k then(Jb6 l (J8j l k) (J8j l k+1),true)else((0,0,[],[],()),false)):=by have hl:=h.1;unfold J7f;rw[Jft l hr (by omega),J8a];cases c:Ji1 l k with|false=>rfl|true=>have:=c;unfold Ji1 at this;rw[decide_eq_true_eq]at this;rw[if_pos rfl,Bool.not_true,J8t,Jgy l hr (by omega),J8a,oW,K8 l h,J8a];congr 3<;>omega
theorem Jus a:maxS a a=a:=by unfold maxS;cases J91 a a<;>rfl
theorem Jtk(l:List Pr)(h:Jyh l)(hr:Jaz l) k:J74 l k=some (if Ji1 l k then((0,0,[],[],()),false)else(Jb6 l (J8j l k - 1) (min (J8j l k+1) l.length),true)):=by have hl:=h.1;unfold J74;rw[Jft l hr (by omega),J8a];cases c:Ji1 l k with|true=>rfl|false=>rw[if_neg (by simp),J8t,Jsf l h hr,Jus,J8a,if_neg (by simp)]
theorem K3(l:List Pr)(h:l.length<=60) f n:(Jd8 l f n).length=n/\∀x∈Jd8 l f n,x.length<=60:=by
 refine⟨by simp[Jd8],λx hx=> ?_⟩;obtain⟨j,_,rfl⟩:=List.mem_map.1 hx;unfold Jdg;split;·have:=Jdw (J98 l).length (J98 l) ((f+j:Nat):Int).toNat;rw[J9i]at this⊢;omega
 exact Nat.zero_le _
theorem Jke a lo hi (h:lo<=hi) (h1: -1099511627776<=lo) (h2:hi<=1099511627776):∃r,J5 a lo hi=some r/\lo<=r/\r<=hi:=by
 unfold J5;have hn:w64 (w64 (hi - lo)+1)=hi - lo+1:=by simp (disch:=omega)only[J9n]
 rw[hn,oN];have hb:Int.tmod a (hi - lo+1)<hi - lo+1/\ -(hi - lo+1)<Int.tmod a (hi - lo+1):=by
  constructor;·exact Int.tmod_lt_of_pos a (by omega)
  have:=Int.tmod_lt_of_pos (-a) (b:=hi - lo+1) (by omega);rw[Int.neg_tmod]at this;omega
 generalize Int.tmod a (hi - lo+1)=t at hb;by_cases ht:t<0;·rw[J8y ht];simp (disch:=omega)only[J9n];exact⟨_,rfl,by omega,by omega⟩
 rw[J93 ht];simp (disch:=omega)only[J9n];exact⟨_,rfl,by omega,by omega⟩
def nm(i:Nat):List UInt8:=([[118,97],[118,98],[118,99],[118,100]]:List (List UInt8)).getD i []
def ky(i:Nat):List UInt8:=List.set (List.replicate 32 (0:UInt8)) 0 (UInt8.ofNat (Int.toNat (((i:Int)+1)%256)))
def wv(a:Int):Int:=(J5 a 1 9).getD 1
theorem wv_eq(a:Int):J5 a 1 9=some (wv a)/\1<=wv a/\wv a<=9:=by obtain⟨r,h,h1,h2⟩:=Jke a 1 9 (by omega) (by omega) (by omega);unfold wv;rw[h];exact⟨rfl,h1,h2⟩
def pw(ps:List Int)(i:Nat):Int:=if i<ps.length then wv (ps.getD i 0)else 1
theorem pw_b ps (i:Nat):1<=pw ps i/\pw ps i<=9:=by
 unfold pw;split;·exact(wv_eq _).2
 omega
def Jp5(ps:List Int):Nat:=max 1 (min 4 ps.length)
def Jxh(p:Nat->Int)(i:Nat):Val:=(nm i,p i,ky i,())
def setS(ps:List Int):List Val:=(List.range (Jp5 ps)).map (Jxh (pw ps))
def Jl6(ps:List Int)(i:Nat)(l:List Val):List Val:=if i=0\/i<ps.length then l++[Jxh (pw ps) i]else l
theorem Kfq ps:J9m (Jl6 ps) 0 4 []=setS ps:=by
 unfold setS Jp5;simp only[J9m,Jl6];by_cases h3:3<ps.length;·rw[show max 1 (min 4 ps.length)=4 from by omega];simp[h3,show 1<ps.length from by omega,show 2<ps.length from by omega,List.range_succ]
 by_cases h2:2<ps.length;·rw[show max 1 (min 4 ps.length)=3 from by omega];simp[h3,h2,show 1<ps.length from by omega,List.range_succ]
 by_cases h1:1<ps.length;·rw[show max 1 (min 4 ps.length)=2 from by omega];simp[h3,h2,h1,List.range_succ]
 rw[show max 1 (min 4 ps.length)=1 from by omega];simp[h3,h2,h1]
theorem set_eq(ps:List Int)(hp:ps.length<=140737488351232):J1a ps=some (setS ps):=by
 unfold J1a J55;have main:J1a_1 ps 4 0 [] [[118,97],[118,98],[118,99],[118,100]]=some (J9m (Jl6 ps) 0 4 []):=by
  refine J8p (step:=λ(s:Int×List Val)=>J1a_1_step ps 4 s.1 s.2 [[118,97],[118,98],[118,99],[118,100]]) (λi l=>((i:Int),l)) (Jl6 ps) (λl=>l) 4 (λi l=>l.length<=i) (λi l hi hl=>⟨?_, ?_⟩) (λl hl=> ?_) 4 0 [] (by omega) (by simp)
  ·unfold J1a_1_step;have hlen:List.length [([118,97]:List UInt8),[118,98],[118,99],[118,100]]=4:=rfl;have hw:=(wv_eq (ps.getD i 0)).1;have ho:∀x:Val,List.length [x]=1:=λ_=>rfl;simp (disch:=omega)only[hlen,J8y,J8d,Int.toNat_natCast,J9n,hw,J8a,ho];unfold Jl6 Jxh pw;by_cases h0:i=0
   ·rw[oT,if_pos (Or.inl h0)];by_cases hc:i<ps.length;·rw[oT,oN,if_pos hc];rfl
    rw[oF,if_neg hc];rfl
   rw[oF];by_cases hc:i<ps.length;·rw[oT,oN,if_pos (Or.inr hc),if_pos hc];rfl
   rw[oF,oJ];rfl
  ·unfold Jl6;split;·simp;omega
   omega
  rfl
 show J89 (J1a_1 ps 4 0 [] [[118,97],[118,98],[118,99],[118,100]]) _=_;rw[main,J8a,Kfq]
theorem Jlt x0 (x1:Int) (x2:Int) x3:J0i_1_step x0 x1 x2 x3=(J8b (decide (x2<x1)) (need (0<=x2/\x2<(List.length x0:Int)) (J89 (J2c (List.getD x0 (Int.toNat x2) zPr)) (λu4=>need (List.length x3+List.length ([u4]:List (List UInt8))<=2147483648) (some (.inl ((w64 (x2+(1:Int))),(x3++([u4]:List (List UInt8))))))))) (some (.inr x3)):Option ((Int×List (List UInt8))⊕(List (List UInt8)))):=rfl
theorem Jse(p:Pr)(h:p.1.length<=100000/\p.2.1.length<=100000):J2c p=some (Jh0 p):=by have a:=Jg7 p.1;have b:=Jg7 p.2.1;unfold J2c;rw[Jss _ h.1,J8a,Jss _ h.2,J8a,oN];rfl
theorem Jqg l (h:Jyh l):J0i l=some (J98 l):=by
 have hl:=h.1;have m1:J0i_1 l (l.length:Int) 0 []=some (J98 l):=by
  have:=J8p (step:=λ(s:Int×List (List UInt8))=>J0i_1_step l (l.length:Int) s.1 s.2) (λi (_:Unit)=>((i:Int),J98 (l.take i))) (λ_ _=>()) (λ_=>J98 l) l.length (λ_ _=>True) (λi w hi _=>⟨?_,trivial⟩) (λw _=> ?_) l.length 0 () (by omega) trivial;·exact this
  ·rw[Jlt,oT,oN,Int.toNat_natCast,Jse _ (h.2 _ (Ja7 hi)),J8a,J8d (by rw[J9i];simp;omega),Jh1 l hi,oW];rfl
  rw[Jlt,oF,List.take_of_length_le (Nat.le_refl _)]
 unfold J0i;rw[m1,J8a]
def Jnl:List (List UInt8):=[[97],[97,98],[97,98,99],[98],[98,97],[115,47,97],[115,47,98],[115,47,99],[116],[117],[122],[122,122]]
theorem Kea:J5v=some Jnl:=rfl
theorem Keb(n:Int):∃i,i<12/\J33 n=some (Jnl.getD i []):=by obtain⟨r,er,r1,r2⟩:=Jke n 0 11 (by omega) (by omega) (by omega);refine⟨r.toNat,by omega, ?_⟩;have hk:Jnl.length=12:=rfl;unfold J33;rw[Kea,J8a,J8a,hk,show w64 (((12:Nat):Int) - 1)=11 from rfl,er,J8a,oN]
theorem K9l(n:Int):∃x,J3s n=some x/\x.length<=8:=by
 obtain⟨r,er,r1,r2⟩:=Jke n 0 4 (by omega) (by omega) (by omega);unfold J3s;rw[er,J8a,J8d (by show 0<=r/\r<((5:Nat):Int);omega)];refine⟨_,rfl, ?_⟩;have:∀i,i<5->(([([]:List UInt8),([49]:List UInt8),([120]:List UInt8),([118,97,108,117,101]:List UInt8),([49,50,51,52,53,54,55,56]:List UInt8)]:List (List UInt8)).getD i []).length<=8:=by decide
 exact this r.toNat (by omega)
def K81(l:List Pr):Prop:=Jaz l/\l.length<=12/\(∀p∈l,p.1∈Jnl)/\∀p∈l,p.2.1.length<=8
theorem Kby:∀k∈Jnl,1<=k.length/\k.length<=3:=by decide
theorem row_kv(h:K81 l):Jyh l:=⟨by have:=h.2.1;omega,λp hp=>⟨by have:=Kby _ (h.2.2.1 p hp);omega,by have:=h.2.2.2 p hp;omega⟩⟩
abbrev zH:List UInt8:=List.replicate 32 (0:UInt8)
def Kas(seed:List UInt8)(i v:Nat):List UInt8:=sha (115::(seed++[UInt8.ofNat i,UInt8.ofNat v]))
def K9(s:List UInt8):List UInt8:=sha (112::s)
def Jta(ps:List (List UInt8)):List UInt8:=sha (107::ps.flatten)
def Jj9(m:List UInt8):List UInt8:=sha (109::m)
def Jlh(d:List UInt8)(i:Nat):Nat:=((d.getD (i / 8) 0).toNat>>>(7 - i%8))%2
theorem Jkl d (i:Nat):Jlh d i<=1:=by unfold Jlh;omega
abbrev One:=List (List UInt8)×List (List UInt8)×Unit
theorem Kv(seed:List UInt8)(hs:seed.length=32)(i v:Nat)(hi:i<256)(hv:v<256):J5u seed (i:Int) (v:Int)=some (Kas seed i v):=by
 unfold J5u;have hf:[seed,[UInt8.ofNat (Int.toNat ((i:Int)%256)),UInt8.ofNat (Int.toNat ((v:Int)%256))]].flatten=seed++[UInt8.ofNat i,UInt8.ofNat v]:=by rw[Jc8,Jc8];simp
 rw[Jay _ _ (by rw[hf];simp;omega) (by simp),hf];rfl
theorem Ka(s:List UInt8)(hs:s.length=32):J5t s=some (K9 s):=by
 unfold J5t;have hf:[s].flatten=s:=by simp
 rw[Jay _ _ (by rw[hf];omega) (by simp),hf];rfl
theorem Jg3 seed i v:(Kas seed i v).length=32:=J9z _
theorem Jsb s:(K9 s).length=32:=J9z _
theorem Jzj s:(Jta s).length=32:=J9z _
theorem Jzc(m:List (List UInt8))(hm:∀x∈m,x.length=32):m.flatten.length=32*m.length:=by induction m with|nil=>rfl|cons a m ih=>rw[List.flatten_cons,List.length_append,ih (λx hx=>hm x (List.mem_cons_of_mem _ hx)),hm a List.mem_cons_self,List.length_cons];omega
theorem Ju8(l:List (List UInt8))(h:i<l.length):(l.take i).flatten++l.getD i zH=(l.take (i+1)).flatten:=by rw[List.take_add_one,List.flatten_append,List.getD_eq_getElem?_getD,List.getElem?_eq_getElem h];simp
theorem Jje(l:List (List UInt8))(h:∀x∈l,x.length=32)(i:Nat):(l.getD i zH).length=32:=by grind
theorem Kbx(l:List (List UInt8))(hl:l.length<=1000)(h:∀x∈l,x.length=32):J4j l=some (Jta l):=by
 have hlen:∀i,((l.take i).flatten).length<=32*l.length:=λi=>by rw[Jzc _ λx hx=>h x (List.mem_of_mem_take hx),List.length_take];omega
 have main:∀z,J4j_1 l (l.length:Int) 0 z []=some (z,l.flatten):=by
  intro z;have:=J8p (step:=λ(s:Int×List UInt8)=>J4j_1_step l (l.length:Int) s.1 z s.2) (λi (_:Unit)=>((i:Int),(l.take i).flatten)) (λ_ _=>()) (λ_=>(z,l.flatten)) l.length (λ_ _=>True) (λi w hi _=>⟨?_,trivial⟩) (λw _=> ?_) l.length 0 () (by omega) trivial;·exact this
  ·show J4j_1_step l (l.length:Int) (i:Int) z (l.take i).flatten=_;unfold J4j_1_step;have b:=hlen i;have hm:(l.getD i (List.replicate 32 0)).length=32:=Jje l h i;rw[oT,oN,Int.toNat_natCast,oN,oW,Ju8 l hi];rfl
  unfold J4j_1_step;rw[oF,List.take_of_length_le (Nat.le_refl _)]
 unfold J4j;have hf:[l.flatten].flatten=l.flatten:=by simp
 have:=Jzc l h;rw[main,J8a];simp only;rw[Jay _ _ (by rw[hf];omega) (by simp),hf];rfl
theorem Kbk d (i:Nat) (hi:i<256):J7p d (i:Int)=some ((Jlh d i:Nat):Int):=by
 unfold J7p;have e1:Int.tdiv (i:Int) 8=((i / 8:Nat):Int):=by rw[Int.tdiv_eq_ediv_of_nonneg (by omega)];omega
 have e2:Int.tmod (i:Int) 8=((i%8:Nat):Int):=by rw[Int.tmod_eq_emod_of_nonneg (by omega)];omega
 rw[e1,e2,oW,oW,oN,oN,Int.toNat_natCast,show Int.toNat (7 - ((i%8:Nat):Int))=7 - i%8 from by omega];generalize hx:d.getD (i / 8) 0=x;have hlt:=x.toNat_lt;have hs:x.toNat>>>(7 - i%8)<=x.toNat:=by rw[Nat.shiftRight_eq_div_pow];exact Nat.div_le_self _ _
 rw[UInt8.toNat_ofNat',Nat.mod_eq_of_lt (by omega)];have hb:=Jqy (x.toNat>>>(7 - i%8)) 1 (by omega) (by omega);rw[show((1:Nat):Int)=1 from rfl]at hb;rw[hb,show(1:Nat)=2^1 - 1 from rfl,Nat.and_two_pow_sub_one_eq_mod];unfold Jlh;rw[hx]
def K1s(seed:List UInt8)(i:Nat):List (List UInt8):=[K9 (Kas seed i 0),K9 (Kas seed i 1)]
def Jd4(seed:List UInt8)(n:Nat):List (List UInt8):=(List.range n).flatMap (K1s seed)
theorem Jjr seed (n:Nat):(∀x∈Jd4 seed n,x.length=32)/\(Jd4 seed n).length=2*n:=by
 unfold Jd4;refine⟨λx hx=> ?_, ?_⟩;·obtain⟨i,_,hi⟩:=List.mem_flatMap.1 hx;simp only[K1s,List.mem_cons,List.not_mem_nil,or_false]at hi;rcases hi with rfl|rfl<;>exact Jsb _
 induction n with|zero=>rfl|succ n ih=>rw[List.range_succ,List.flatMap_append,List.length_append,ih];simp[K1s];omega
theorem Jna:∀{l:List α},(∀a∈l,f a=g a)->l.flatMap f=l.flatMap g
 |[],_=>rfl
 |a::l,h=>by rw[List.flatMap_cons,List.flatMap_cons,h a List.mem_cons_self,Jna λb hb=>h b (List.mem_cons_of_mem _ hb)]
theorem Jgu(f:Nat->List α)(n:Nat):(List.range (n+1)).flatMap f=(List.range n).flatMap f++f n:=by rw[List.range_succ];simp
def K7n(seed:List UInt8):List UInt8:=Jta (Jd4 seed 32)
theorem Key_eq(seed:List UInt8)(hs:seed.length=32):J5c seed=some (K7n seed):=by
 have main:∀z,J5c_1 0 seed z []=some (z,Jd4 seed 32):=by
  intro z;have:=J8p (step:=λ(s:Int×List (List UInt8))=>J5c_1_step s.1 seed z s.2) (λi (_:Unit)=>((i:Int),Jd4 seed i)) (λ_ _=>()) (λ_=>(z,Jd4 seed 32)) 32 (λ_ _=>True) (λi w hi _=>⟨?_,trivial⟩) (λw _=> ?_) 32 0 () (by omega) trivial;·exact this
  ·unfold J5c_1_step;have hl:=(Jjr seed i).2;have s0:=Kv seed hs i 0 (by omega) (by omega);have s1:=Kv seed hs i 1 (by omega) (by omega);rw[show((0:Nat):Int)=0 from rfl]at s0;rw[show((1:Nat):Int)=1 from rfl]at s1;rw[oT,s0,J8a,Ka _ (Jg3 _ _ _),J8a,s1,J8a,Ka _ (Jg3 _ _ _),J8a,J8d (by simp;omega),oW];unfold Jd4;rw[Jgu];rfl
  unfold J5c_1_step;rw[oF]
 unfold J5c;obtain⟨h1,h2⟩:=Jjr seed 32;rw[main,J8a];simp only;rw[Kbx _ (by omega) h1];rfl
def Jgh(seed d:List UInt8)(n:Nat):List (List UInt8):=(List.range n).map λi=>Kas seed i (Jlh d i)
def Jgi(seed d:List UInt8)(n:Nat):List (List UInt8):=(List.range n).map λi=>K9 (Kas seed i (1 - Jlh d i))
def Jpf(seed m:List UInt8):One:=(Jgh seed (Jj9 m) 32,Jgi seed (Jj9 m) 32,())
theorem mapRange(f:Nat->α)(n:Nat):(List.range (n+1)).map f=(List.range n).map f++[f n]:=by rw[List.range_succ,List.map_append];rfl
theorem Kbp(m:List UInt8)(hm:m.length<=100000):J0e 109 [m]=some (Jj9 m):=by
 have hf:[m].flatten=m:=by simp
 rw[Jay _ _ (by rw[hf];omega) (by simp),hf];rfl
theorem Kfu(seed m:List UInt8)(hs:seed.length=32)(hm:m.length<=100000):J4n seed m=some (Jpf seed m):=by
 have main:∀d,J4n_1 0 seed () () [] [] d=some ((),(),Jgh seed d 32,Jgi seed d 32):=by
  intro d;have:=J8p (step:=λ(s:Int×List (List UInt8)×List (List UInt8))=>J4n_1_step s.1 seed () () s.2.1 s.2.2 d) (λi (_:Unit)=>((i:Int),Jgh seed d i,Jgi seed d i)) (λ_ _=>()) (λ_=>((),(),Jgh seed d 32,Jgi seed d 32)) 32 (λ_ _=>True) (λi w hi _=>⟨?_,trivial⟩) (λw _=> ?_) 32 0 () (by omega) trivial;·exact this
  ·unfold J4n_1_step;have hb:=Jkl d i;have lo:(Jgh seed d i).length=i:=(by simp[Jgh]);have ls:(Jgi seed d i).length=i:=by simp[Jgi]
   rw[oT,Kbk d i (by omega),J8a,Kv seed hs i _ (by omega) (by omega),J8a,J8d (by simp;omega),oW,show(1:Int) - ((Jlh d i:Nat):Int)=((1 - Jlh d i:Nat):Int)from by omega,
    Kv seed hs i _ (by omega) (by omega),J8a,Ka _ (Jg3 _ _ _),J8a,J8d (by simp;omega),oW]
   unfold Jgh Jgi;rw[mapRange,mapRange];rfl
  unfold J4n_1_step;rw[oF]
 unfold J4n;rw[Kbp m hm,J8a,main,J8a];rfl
def Jlc(d:List UInt8)(o s:List (List UInt8))(i:Nat):List (List UInt8):=if Jlh d i=0 then[K9 (o.getD i zH),s.getD i zH]else[s.getD i zH,K9 (o.getD i zH)]
def Je8(d:List UInt8)(o s:List (List UInt8)):List (List UInt8):=(List.range 32).flatMap (Jlc d o s)
def Len32(l:List (List UInt8)):Prop:=∀x∈l,x.length=32
def Jw4(m:List UInt8)(x:One):List UInt8×Bool:=if x.1.length=32/\x.2.1.length=32 then(Jta (Je8 (Jj9 m) x.1 x.2.1),true)else(zH,false)
theorem K7j d o s (i:Nat):(Jlc d o s i).length=2:=by unfold Jlc;split<;>rfl
theorem Jff d o s:∀n,((List.range n).flatMap (Jlc d o s)).length=2*n
 |0=>rfl
 |n+1=>by rw[Jgu,List.length_append,Jff d o s n,K7j];omega
theorem Jqt d o s (hs:Len32 s) (n:Nat):Len32 ((List.range n).flatMap (Jlc d o s)):=by intro x hx;obtain⟨i,_,hi⟩:=List.mem_flatMap.1 hx;unfold Jlc at hi;split at hi<;>simp at hi<;>rcases hi with rfl|rfl<;>first|exact Jsb _|exact Jje s hs i
theorem K00(a l:List α)(k:Nat) x (n:Nat) (h:n=a.length+k):(a++l).set n x=a++l.set k x:=by subst h;exact Jy1 a l k x
theorem who_1 d z (x:One) (ho:x.1.length=32) (hs:x.2.1.length=32) (lo:Len32 x.1):J4y_1 0 x z d (List.replicate 64 zH)=some (z,Je8 d x.1 x.2.1):=by
 unfold J4y_1;have:=J8p (step:=λ(s:Int×List (List UInt8))=>J4y_1_step s.1 x z d s.2) (λi (_:Unit)=>((i:Int),(List.range i).flatMap (Jlc d x.1 x.2.1)++List.replicate (64 - 2*i) zH)) (λ_ _=>()) (λ_=>(z,Je8 d x.1 x.2.1)) 32 (λ_ _=>True) (λi w hi _=>⟨?_,trivial⟩) (λw _=> ?_) 32 0 () (by omega) trivial;·exact this
 ·unfold J4y_1_step;have hb:=Jkl d i;have hl:=Jff d x.1 x.2.1 i;have hlen:((List.range i).flatMap (Jlc d x.1 x.2.1)++List.replicate (64 - 2*i) zH).length=64:=by rw[List.length_append,hl,List.length_replicate];omega
  rw[oT,Kbk d i (by omega),J8a,oN,Int.toNat_natCast,Ka _ (Jje _ lo i),J8a,oN];have e1:w64 (w64 (2*(i:Int))+((Jlh d i:Nat):Int))=((2*i+Jlh d i:Nat):Int):=by rw[oX (2*(i:Int)),oW];omega
  have e2:w64 (w64 (w64 (2*(i:Int))+1) - ((Jlh d i:Nat):Int))=((2*i+1 - Jlh d i:Nat):Int):=by rw[oX (2*(i:Int)),oX (2*(i:Int)+1),oW];omega
  rw[e1,e2,hlen,oN,List.length_set,hlen,oN,Int.toNat_natCast,Int.toNat_natCast,oW,Jgu];have hr:List.replicate (64 - 2*i) zH=zH::zH::List.replicate (64 - 2*(i+1)) zH:=by rw[show 64 - 2*i=(64 - 2*(i+1))+1+1 from by omega,List.replicate_succ,List.replicate_succ]
  rw[hr];have hw:Jlc d x.1 x.2.1 i=if Jlh d i=0 then[K9 (x.1.getD i zH),x.2.1.getD i zH]else[x.2.1.getD i zH,K9 (x.1.getD i zH)]:=rfl
  rw[hw];rcases(show Jlh d i=0\/Jlh d i=1 by omega)with h0|h0;·rw[h0,if_pos rfl,K00 _ _ 0 _ _ (by rw[hl]),K00 _ _ 1 _ _ (by rw[hl];rfl),List.append_assoc];rfl
  rw[h0,oJ,K00 _ _ 1 _ _ (by rw[hl]),K00 _ _ 0 _ _ (by rw[hl];omega),List.append_assoc];rfl
 show J4y_1_step 32 x z d _=_;unfold J4y_1_step;rw[oF];simp[Je8]
theorem who_eq(m:List UInt8)(hm:m.length<=100000)(x:One)(lo:Len32 x.1)(ls:Len32 x.2.1):J4y m x=some (Jw4 m x):=by
 unfold J4y Jw4;by_cases ho:x.1.length=32
 ·rw[Jd2 (by omega)];by_cases hs:x.2.1.length=32;·rw[Jd2 (by omega),Kbp m hm,J8a,if_pos ⟨ho,hs⟩];have w:=who_1 (Jj9 m) zH x ho hs lo;rw[show Int.toNat (64:Int)=64 from rfl,w,J8a];have hk:J4j (Je8 (Jj9 m) x.1 x.2.1)=some (Jta (Je8 (Jj9 m) x.1 x.2.1)):=Kbx _ (by unfold Je8;rw[Jff];omega) (Jqt _ _ _ ls 32);rw[hk];rfl
  rw[Jdt (by omega),if_neg (λh=>hs h.2)]
 rw[Jdt (by omega),if_neg (λh=>ho h.1)]
theorem K02 seed m:(Jpf seed m).1.length=32/\(Jpf seed m).2.1.length=32/\Len32 (Jpf seed m).1/\Len32 (Jpf seed m).2.1:=by
 refine⟨by simp[Jpf,Jgh],by simp[Jpf,Jgi],λx hx=> ?_,λx hx=> ?_⟩;·obtain⟨i,_,rfl⟩:=List.mem_map.1 hx;exact Jg3 _ _ _
 obtain⟨i,_,rfl⟩:=List.mem_map.1 hx;exact Jsb _
def Jux(seed d e:List UInt8)(i:Nat):List (List UInt8):=if Jlh d i=Jlh e i then K1s seed i else[K9 (Kas seed i 1),K9 (Kas seed i 0)]
theorem Jyd seed d e:Je8 e (Jgh seed d 32) (Jgi seed d 32)=(List.range 32).flatMap (Jux seed d e):=by
 unfold Je8;have:∀i∈List.range 32,Jlc e (Jgh seed d 32) (Jgi seed d 32) i=Jux seed d e i:=by intro i hi;unfold Jlc Jux Jgh Jgi K1s;have h1:=Jkl d i;have h2:=Jkl e i;grind
 rw[Jna this]
theorem Kb9 seed m:Jw4 m (Jpf seed m)=(K7n seed,true):=by obtain⟨h1,h2,_,_⟩:=K02 seed m;show(Jta (Je8 (Jj9 m) (Jgh seed (Jj9 m) 32) (Jgi seed (Jj9 m) 32)),true)=_;rw[Jyd];have:∀i∈List.range 32,Jux seed (Jj9 m) (Jj9 m) i=K1s seed i:=λi _=>if_pos rfl;rw[Jna this];rfl
def Jot(seed:List UInt8)(h:Nat):List UInt8:=sha (114::(seed++[UInt8.ofNat h]))
def Js0(seed:List UInt8)(n:Nat):List (List UInt8):=(List.range n).map λi=>K7n (Jot seed (i+1))
def Jbu(seed:List UInt8):List (List UInt8):=Js0 seed 16
noncomputable def Jq0(seed:List UInt8):List UInt8:=Jbv (Jbu seed)
abbrev Sig:=Int×One×List (List UInt8)×Unit
noncomputable def byS(keys:List (List UInt8))(seed:List UInt8)(h:Int)(m:List UInt8):Sig:=(h,Jpf (Jot seed h.toNat) m,Jdg keys (h - 1),())
def noSig:Sig:=(0,([],[],()),[],())
def isH(h:Int):Bool:=decide (1<=h)&&decide (h<=16)
def Kcp(id:List UInt8)(j:Int)(m:List UInt8)(s:Sig):Bool:=isH j&&(decide (s.1=j)&&((Jw4 m s.2.1).2&&((upS (Jw4 m s.2.1).1 (j - 1) 16 s.2.2.1).2&&Ty.beq (.arr 32 (.int .u8)) (upS (Jw4 m s.2.1).1 (j - 1) 16 s.2.2.1).1 id)))
theorem Jk2 seed (h:Nat):(Jot seed h).length=32:=J9z _
theorem K7w seed:(K7n seed).length=32:=Jzj _
theorem K2n(seed:List UInt8)(hs:seed.length=32)(h:Nat):J79 seed (h:Int)=some (Jot seed h):=by
 unfold J79;have hf:[seed,[UInt8.ofNat (Int.toNat ((h:Int)%256))]].flatten=seed++[UInt8.ofNat h]:=by rw[Jc8];simp
 rw[Jay _ _ (by rw[hf];simp;omega) (by simp),hf];rfl
theorem Jnm seed (n:Nat):(Js0 seed n).length=n:=by simp[Js0]
theorem K9i seed (n:Nat):Len32 (Js0 seed n):=by intro x hx;obtain⟨i,_,rfl⟩:=List.mem_map.1 hx;exact K7w _
theorem Jb4 seed:(Jbu seed).length=16:=Jnm _ _
theorem Jfs seed:Small (Jbu seed):=λx hx=>by rw[K9i seed 16 x hx];omega
theorem K9j seed (i:Nat) (h:i<16):(Jbu seed).getD i []=K7n (Jot seed (i+1)):=by unfold Jbu Js0;grind
theorem Kcy(seed:List UInt8)(hs:seed.length=32):J4c seed=some (Jbu seed):=by
 have main:J4c_1 1 seed []=some (Jbu seed):=by
  have:=J8p (step:=λ(s:Int×List (List UInt8))=>J4c_1_step s.1 seed s.2) (λi (_:Unit)=>(((i+1:Nat):Int),Js0 seed i)) (λ_ _=>()) (λ_=>Jbu seed) 16 (λ_ _=>True) (λi w hi _=>⟨?_,trivial⟩) (λw _=> ?_) 16 0 () (by omega) trivial;·exact this
  ·unfold J4c_1_step;have hl:=Jnm seed i;rw[oT,K2n seed hs,J8a,Key_eq _ (Jk2 _ _),J8a,J8d (by simp;omega),oW];unfold Js0;rw[mapRange];rfl
  rfl
 unfold J4c;rw[main];rfl
theorem Kbu(h:Int):J7q h=some (isH h):=by
 unfold J7q isH;by_cases c:1<=h;·rw[decide_eq_true c];rfl
 rw[decide_eq_false c];rfl
theorem Ke7(h1:1<=h)(h2:h<=16):isH h=true:=by unfold isH;rw[decide_eq_true h1,decide_eq_true h2];rfl
theorem K4n:isH h=true↔1<=h/\h<=16:=by unfold isH;rw[Bool.and_eq_true,decide_eq_true_eq,decide_eq_true_eq]
theorem isH_f(c:h<1\/16<h):isH h=false:=by rw[<-Bool.not_eq_true,K4n];omega
theorem By_eq(keys:List (List UInt8))(hk:keys.length<64)(hks:Small keys)(seed m:List UInt8)(hs:seed.length=32)(h:Int)(h1:1<=h)(h2:h<=16)(hm:m.length<=100000):J81 keys seed h m=some (byS keys seed h m):=by obtain⟨k,rfl⟩:=Int.eq_ofNat_of_zero_le (show 0<=h by omega);unfold J81 byS;rw[Kbu,Ke7 h1 h2,J8a,show(!true)=false from rfl,J8t,K2n seed hs,J8a,Kfu _ m (Jk2 _ _) hm,J8a,oW,K5p keys _ hk hks,J8a,Int.toNat_natCast]
noncomputable def sigS(seed:List UInt8)(h:Int)(m:List UInt8):Sig:=byS (Jbu seed) seed h m
theorem K0g m x:(Jw4 m x).1.length=32:=by
 unfold Jw4;split;·exact Jzj _
 rfl
def Jqw(s:Sig):Prop:=Len32 s.2.1.1/\Len32 s.2.1.2.1/\Len32 s.2.2.1/\s.2.2.1.length<=100000
theorem Ver_eq id (j:Int) (m:List UInt8) (hm:m.length<=100000) s (hs:Jqw s):J6z id j m s=some (Kcp id j m s):=by
 obtain⟨s1,s2,s3,s4⟩:=hs;unfold J6z Kcp;rw[Kbu,J8a];cases hj:isH j with
 |false=>rfl
 |true=>
  obtain⟨j1,j2⟩:=K4n.1 hj;by_cases c:s.1=j;·rw[decide_eq_true c,who_eq m hm s.2.1 s1 s2,J8a];cases (Jw4 m s.2.1).2 with|false=>rfl|true=>rw[oW,up_eq _ (by rw[K0g];omega) _ _ (by omega) _ s3 s4,J8a];cases (upS (Jw4 m s.2.1).1 (j - 1) 16 s.2.2.1).2<;>rfl
  rw[decide_eq_false c];rfl
theorem K6r:∀i,i<16->(J9p 16 i 16).length=4:=by decide
theorem Kc9 seed (h:Int) (h1:1<=h) (h2:h<=16):Jdg (Jbu seed) (h - 1)=Jbc 16 (Jbu seed) (h - 1).toNat/\(Jdg (Jbu seed) (h - 1)).length=4/\Len32 (Jdg (Jbu seed) (h - 1)):=by
 have e:Jdg (Jbu seed) (h - 1)=Jbc 16 (Jbu seed) (h - 1).toNat:=by unfold Jdg;rw[Jb4,oI]
 rw[e];refine⟨rfl, ?_,Jjs _ _ _⟩;rw[Jdl _ _ _ (by rw[Jb4];omega),Jb4,K6r _ (by omega)]
theorem sig_ok seed (h:Int) (h1:1<=h) (h2:h<=16) m:Jqw (sigS seed h m):=by obtain⟨_,_,a,b⟩:=K02 (Jot seed h.toNat) m;obtain⟨_,p1,p2⟩:=Kc9 seed h h1 h2;exact⟨a,b,p2,by show(Jdg (Jbu seed) (h - 1)).length<=100000;omega⟩
theorem K9v:Jqw noSig:=⟨(λx hx=>nomatch hx),(λx hx=>nomatch hx),(λx hx=>nomatch hx),by show(0:Nat)<=100000;omega⟩
theorem Kg9 id seed (h:Int) (h1:1<=h) (h2:h<=16) m:Kcp id h m (sigS seed h m)=Ty.beq (.arr 32 (.int .u8)) (Jq0 seed) id:=by
 obtain⟨p0,p1,p2⟩:=Kc9 seed h h1 h2;have hw:Jw4 m (sigS seed h m).2.1=(K7n (Jot seed h.toNat),true):=Kb9 _ _;have hk:K7n (Jot seed h.toNat)=(Jbu seed).getD (h - 1).toNat []:=by rw[K9j seed _ (by omega),show(h - 1).toNat+1=h.toNat from by omega]
 have hup:upS (K7n (Jot seed h.toNat)) (h - 1) 16 (sigS seed h m).2.2.1=(Jq0 seed,true):=by show upS (K7n (Jot seed h.toNat)) (h - 1) 16 (Jdg (Jbu seed) (h - 1))=_;unfold upS;have e16:(16:Int).toNat=16:=rfl;rw[e16,if_pos ⟨(Jio _ _).2 (by omega),by rw[p1,K6r _ (by omega)]⟩,p0,hk];have:=Js7 16 (Jbu seed) (h - 1).toNat (by rw[Jb4];omega) (by rw[Jb4];omega) (by rw[Jb4];omega);rw[Jb4]at this;rw[this];rfl
 unfold Kcp;rw[hw,Ke7 h1 h2];rw[hup,decide_eq_true (show(sigS seed h m).1=h from rfl)];rfl
theorem Jsq(seed:List UInt8)(hs:seed.length=32)(i v:Nat)(hi:i<256)(hv:v<256):J2k seed (i:Int) (v:Int)=some (Kas seed i v):=by
 unfold J2k;have hf:[seed,[UInt8.ofNat (Int.toNat ((i:Int)%256)),UInt8.ofNat (Int.toNat ((v:Int)%256))]].flatten=seed++[UInt8.ofNat i,UInt8.ofNat v]:=by rw[Jc8,Jc8];simp
 rw[J9x _ _ (by rw[hf];simp;omega) (by simp),hf];rfl
theorem Jso(s:List UInt8)(hs:s.length=32):J2j s=some (K9 s):=by
 unfold J2j;have hf:[s].flatten=s:=by simp
 rw[J9x _ _ (by rw[hf];omega) (by simp),hf];rfl
theorem Kf3(m:List UInt8)(hm:m.length<=100000):Jb 109 [m]=some (Jj9 m):=by
 have hf:[m].flatten=m:=by simp
 rw[J9x _ _ (by rw[hf];omega) (by simp),hf];rfl
theorem Kf1 d (i:Nat) (hi:i<256):need (0<=(w64 (Int.tdiv (i:Int) (8:Int)))/\(w64 (Int.tdiv (i:Int) (8:Int)))<(32:Int)) (need (0<=(((UInt64.ofNat (Int.toNat ((w64 ((7:Int) - (Int.tmod (i:Int) (8:Int))))%18446744073709551616))).toNat:Nat):Int)) (some (Jp7 ((UInt8.toNat (UInt8.ofNat (UInt8.toNat (List.getD d (Int.toNat (w64 (Int.tdiv (i:Int) (8:Int)))) (0:UInt8))>>>(Int.toNat (((UInt64.ofNat (Int.toNat ((w64 ((7:Int) - (Int.tmod (i:Int) (8:Int))))%18446744073709551616))).toNat:Nat):Int)))):Nat):Int) (1:Int))))=some ((Jlh d i:Nat):Int):=by
 have e1:Int.tdiv (i:Int) 8=((i / 8:Nat):Int):=by rw[Int.tdiv_eq_ediv_of_nonneg (by omega)];omega
 have e2:Int.tmod (i:Int) 8=((i%8:Nat):Int):=by rw[Int.tmod_eq_emod_of_nonneg (by omega)];omega
 have e3:(UInt64.ofNat (Int.toNat ((7 - ((i%8:Nat):Int))%18446744073709551616))).toNat=7 - i%8:=by rw[UInt64.toNat_ofNat'];omega
 rw[e1,e2,oW,oW,oN,e3,oN,Int.toNat_natCast,Int.toNat_natCast];generalize hx:d.getD (i / 8) 0=x;have hlt:=x.toNat_lt;have hs:x.toNat>>>(7 - i%8)<=x.toNat:=by rw[Nat.shiftRight_eq_div_pow];exact Nat.div_le_self _ _
 rw[UInt8.toNat_ofNat',Nat.mod_eq_of_lt (by omega)];have hb:=Jqy (x.toNat>>>(7 - i%8)) 1 (by omega) (by omega);rw[show((1:Nat):Int)=1 from rfl]at hb;rw[hb,show(1:Nat)=2^1 - 1 from rfl,Nat.and_two_pow_sub_one_eq_mod];unfold Jlh;rw[hx]
theorem K60(m:List UInt8)(hm:m.length<=100000)(i:Nat)(hi:i<256):J5q m (i:Int)=some ((Jlh (Jj9 m) i:Nat):Int):=by unfold J5q;rw[Kf3 m hm];exact Kf1 (Jj9 m) i hi
theorem K6b(l:List (List UInt8))(hl:l.length<=1000)(h:∀x∈l,x.length=32):J0v l=some (Jta l):=by
 have hlen:∀i,((l.take i).flatten).length<=32*l.length:=λi=>by rw[Jzc _ λx hx=>h x (List.mem_of_mem_take hx),List.length_take];omega
 have main:∀z,J0v_1 l (l.length:Int) 0 z []=some (z,l.flatten):=by
  intro z;have:=J8p (step:=λ(s:Int×List UInt8)=>J0v_1_step l (l.length:Int) s.1 z s.2) (λi (_:Unit)=>((i:Int),(l.take i).flatten)) (λ_ _=>()) (λ_=>(z,l.flatten)) l.length (λ_ _=>True) (λi w hi _=>⟨?_,trivial⟩) (λw _=> ?_) l.length 0 () (by omega) trivial;·exact this
  ·show J0v_1_step l (l.length:Int) (i:Int) z (l.take i).flatten=_;unfold J0v_1_step;have b:=hlen i;have hm:(l.getD i (List.replicate 32 0)).length=32:=Jje l h i;rw[oT,oN,Int.toNat_natCast,oN,oW,Ju8 l hi];rfl
  unfold J0v_1_step;rw[oF,List.take_of_length_le (Nat.le_refl _)]
 unfold J0v;have hf:[l.flatten].flatten=l.flatten:=by simp
 have:=Jzc l h;rw[main,J8a];simp only;rw[J9x _ _ (by rw[hf];omega) (by simp),hf];rfl
theorem Kew(seed:List UInt8)(hs:seed.length=32):J1b seed=some (K7n seed):=by
 have main:∀z,J1b_1 0 seed z []=some (z,Jd4 seed 32):=by
  intro z;have:=J8p (step:=λ(s:Int×List (List UInt8))=>J1b_1_step s.1 seed z s.2) (λi (_:Unit)=>((i:Int),Jd4 seed i)) (λ_ _=>()) (λ_=>(z,Jd4 seed 32)) 32 (λ_ _=>True) (λi w hi _=>⟨?_,trivial⟩) (λw _=> ?_) 32 0 () (by omega) trivial;·exact this
  ·unfold J1b_1_step;have hl:=(Jjr seed i).2;have s0:=Jsq seed hs i 0 (by omega) (by omega);have s1:=Jsq seed hs i 1 (by omega) (by omega);rw[show((0:Nat):Int)=0 from rfl]at s0;rw[show((1:Nat):Int)=1 from rfl]at s1;rw[oT,s0,J8a,Jso _ (Jg3 _ _ _),J8a,s1,J8a,Jso _ (Jg3 _ _ _),J8a,J8d (by simp;omega),oW];unfold Jd4;rw[Jgu];rfl
  unfold J1b_1_step;rw[oF]
 unfold J1b;obtain⟨h1,h2⟩:=Jjr seed 32;rw[main,J8a];simp only;rw[K6b _ (by omega) h1];rfl
theorem Kap(seed m:List UInt8)(hs:seed.length=32)(hm:m.length<=100000):J13 seed m=some (Jpf seed m):=by
 have main:J13_1 m 0 seed () () [] []=some ((),(),Jgh seed (Jj9 m) 32,Jgi seed (Jj9 m) 32):=by
  generalize hd:Jj9 m=d;have:=J8p (step:=λ(s:Int×List (List UInt8)×List (List UInt8))=>J13_1_step m s.1 seed () () s.2.1 s.2.2) (λi (_:Unit)=>((i:Int),Jgh seed d i,Jgi seed d i)) (λ_ _=>()) (λ_=>((),(),Jgh seed d 32,Jgi seed d 32)) 32 (λ_ _=>True) (λi w hi _=>⟨?_,trivial⟩) (λw _=> ?_) 32 0 () (by omega) trivial;·exact this
  ·unfold J13_1_step;have hb:=Jkl d i;have lo:(Jgh seed d i).length=i:=(by simp[Jgh]);have ls:(Jgi seed d i).length=i:=by simp[Jgi]
   rw[oT,K60 m hm i (by omega),J8a,hd,Jsq seed hs i _ (by omega) (by omega),J8a,J8d (by simp;omega),oW,show(1:Int) - ((Jlh d i:Nat):Int)=((1 - Jlh d i:Nat):Int)from by omega,
    Jsq seed hs i _ (by omega) (by omega),J8a,Jso _ (Jg3 _ _ _),J8a,J8d (by simp;omega),oW]
   unfold Jgh Jgi;rw[mapRange,mapRange];rfl
  unfold J13_1_step;rw[oF]
 unfold J13;rw[main];rfl
theorem Kfn(m:List UInt8)(hm:m.length<=100000)(x:One)(lo:Len32 x.1)(ls:Len32 x.2.1):J1c m x=some (Jw4 m x):=by
 unfold J1c Jw4;by_cases ho:x.1.length=32
 ·rw [Jd2 (by omega)];by_cases hs:x.2.1.length=32
  ·rw[Jd2 (by omega),if_pos ⟨ho,hs⟩];have main:J1c_1 m 0 x zH []=some (zH,Je8 (Jj9 m) x.1 x.2.1):=by
    have:=J8p (step:=λ(s:Int×List (List UInt8))=>J1c_1_step m s.1 x zH s.2) (λi (_:Unit)=>((i:Int),(List.range i).flatMap (Jlc (Jj9 m) x.1 x.2.1))) (λ_ _=>()) (λ_=>(zH,Je8 (Jj9 m) x.1 x.2.1)) 32 (λ_ _=>True) (λi w hi _=>⟨?_,trivial⟩) (λw _=> ?_) 32 0 () (by omega) trivial;·exact this
    ·unfold J1c_1_step;have hb:=Jkl (Jj9 m) i;have hl:=Jff (Jj9 m) x.1 x.2.1 i;have hg:=Jje _ lo i;rw[oT,oN,Int.toNat_natCast,Jso _ hg,J8a,oN,K60 m hm i (by omega),J8a,oW,Jgu];have hw:Jlc (Jj9 m) x.1 x.2.1 i=if Jlh (Jj9 m) i=0 then[K9 (x.1.getD i zH),x.2.1.getD i zH]else[x.2.1.getD i zH,K9 (x.1.getD i zH)]:=rfl
     rw[hw];rcases(show Jlh (Jj9 m) i=0\/Jlh (Jj9 m) i=1 by omega)with h0|h0;·rw[h0,if_pos rfl,oF,J8d (by rw[hl,List.length_cons,List.length_cons,List.length_nil];omega)];rfl
     rw[h0,oT,J8d (by rw[hl,List.length_cons,List.length_cons,List.length_nil];omega)];rfl
    unfold J1c_1_step;rfl
   have hk:J0v (Je8 (Jj9 m) x.1 x.2.1)=some (Jta (Je8 (Jj9 m) x.1 x.2.1)):=K6b _ (by unfold Je8;rw[Jff];omega) (Jqt _ _ _ ls 32);have main':=main;rw[main',J8a];simp only;rw[hk];rfl
  rw[Jdt (by omega),if_neg (λh=>hs h.2)]
 rw[Jdt (by omega),if_neg (λh=>ho h.1)]
theorem Kg(seed:List UInt8)(hs:seed.length=32)(h:Nat):J4t seed (h:Int)=some (Jot seed h):=by
 unfold J4t;have hf:[seed,[UInt8.ofNat (Int.toNat ((h:Int)%256))]].flatten=seed++[UInt8.ofNat h]:=by rw[Jc8];simp
 rw[J9x _ _ (by rw[hf];simp;omega) (by simp),hf];rfl
theorem Ka7(seed:List UInt8)(hs:seed.length=32):J10 seed=some (Jbu seed):=by
 have main:J10_1 1 seed []=some (Jbu seed):=by
  have:=J8p (step:=λ(s:Int×List (List UInt8))=>J10_1_step s.1 seed s.2) (λi (_:Unit)=>(((i+1:Nat):Int),Js0 seed i)) (λ_ _=>()) (λ_=>Jbu seed) 16 (λ_ _=>True) (λi w hi _=>⟨?_,trivial⟩) (λw _=> ?_) 16 0 () (by omega) trivial;·exact this
  ·unfold J10_1_step;have hl:=Jnm seed i;rw[oT,Kg seed hs,J8a,Kew _ (Jk2 _ _),J8a,J8d (by simp;omega),oW];unfold Js0;rw[mapRange];rfl
  unfold J10_1_step;rfl
 unfold J10;rw[main];rfl
theorem Kce(keys:List (List UInt8))(hk:keys.length<64)(hks:Small keys)(seed m:List UInt8)(hs:seed.length=32)(h:Int)(h1:1<=h)(h2:h<=16)(hm:m.length<=100000):J5z keys seed h m=some (byS keys seed h m):=by obtain⟨k,rfl⟩:=Int.eq_ofNat_of_zero_le (show 0<=h by omega);unfold J5z byS;rw[Kg seed hs,J8a,Kap _ m (Jk2 _ _) hm,J8a,oW,Kr keys _ hk hks,J8a,Int.toNat_natCast]
theorem Kez id (j:Int) (m:List UInt8) (hm:m.length<=100000) s (hs:Jqw s):J60 id j m s=some (Kcp id j m s):=by
 obtain⟨s1,s2,s3,s4⟩:=hs;unfold J60 Kcp;rw[Kfn m hm s.2.1 s1 s2,J8a];cases hw:(Jw4 m s.2.1).2 with
 |false=>rw[Bool.false_and,Bool.and_false,Bool.and_false];rfl
 | true=>
  rw[show(!true)=false from rfl,J8t];by_cases c:s.1=j
  ·rw[Jd2 c,decide_eq_true c];by_cases c1:j<1;·rw[J8y c1,isH_f (.inl c1),Bool.false_and]
   by_cases c2:16<j;·rw[J93 c1,J8y c2,isH_f (.inr c2),Bool.false_and]
   obtain⟨x,x1,x2,_⟩:=Kch (Jw4 m s.2.1).1 (by rw[K0g];omega) (j - 1) 16 (by omega) s.2.2.1 s3 s4;rw[J93 c1,J93 c2,Ke7 (by omega) (by omega),oW,x1];cases hu:(upS (Jw4 m s.2.1).1 (j - 1) 16 s.2.2.1).2 with|false=>rfl|true=>rw[x2 hu];rfl
  rw[Jdt c,decide_eq_false c,Bool.false_and,Bool.and_false]
abbrev J9o:=List UInt8×Sig×Unit
def zSg:J9o:=(([]:List UInt8),((0:Int),(([]:List (List UInt8)),([]:List (List UInt8)),()),([]:List (List UInt8)),()),())
def K7r(s:List J9o):List (List UInt8):=s.map (·.1)
theorem Jzr(s:List J9o)(i:Nat):(s.getD i zSg).1=(K7r s).getD i []:=by unfold K7r;rw[List.getD_eq_getElem?_getD,List.getD_eq_getElem?_getD,List.getElem?_map];cases s[i]?<;>rfl
def incS(s:List J9o):Bool:=incN (K7r s)
def Jl2(s:List J9o):Bool:=incS s&&decide (s.length<=5)
theorem Jit(s:List J9o)(i:Int):J3p_1_step s i=(J8b (decide (i<(s.length:Int))) (need (0<=(w64 (i - 1))/\(w64 (i - 1))<(s.length:Int)) (need (0<=i/\i<(s.length:Int)) (J8b (!J91 (s.getD (Int.toNat (w64 (i - 1))) zSg).1 (s.getD (Int.toNat i) zSg).1) (some (.inr (.inl false))) (some (.inl (w64 (i+1))))))) (some (.inr (.inr s))):Option (Int⊕(Bool⊕List J9o))):=rfl
theorem Ku(s:List J9o)(r r0:ρ):∀(k i:Nat),i+k=s.length - 1->(∀j,j<i->J91 (s.getD j zSg).1 (s.getD (j+1) zSg).1=true)->
  scan (λi=>if J91 (s.getD i zSg).1 (s.getD (i+1) zSg).1=true then none else some r) r0 i k=if incS s=true then r0 else r
 |0,i,h,hj=>by have:incS s=true:=List.all_eq_true.2 λj hj'=>(by have hj':j<(K7r s).length - 1:=(by simpa using hj');have hl:(K7r s).length=s.length:=(by simp[K7r]);rw[<-Jzr,<-Jzr];exact hj j (by omega));rw[if_pos this];rfl
 |k+1,i,h,hj=>by
  rw[scan];by_cases e:J91 (s.getD i zSg).1 (s.getD (i+1) zSg).1=true;·rw[if_pos e];exact Ku s r r0 k (i+1) (by omega) λj hj'=>by grind
  rw[if_neg e];have hl:(K7r s).length=s.length:=(by simp[K7r]);have:¬incS s=true:=λhall=>e (by have:=List.all_eq_true.1 hall i (by simp;omega);rwa[<-Jzr,<-Jzr]at this);rw[if_neg this]
theorem Jvf(s:List J9o)(hs:s.length<=1073741824):J3p s=some (Jl2 s):=by
 have h:J3p_1 s 1=some (scan (λi=>if J91 (s.getD i zSg).1 (s.getD (i+1) zSg).1=true then none else some (.inl false)) (.inr s) 0 (s.length - 1)):=by
  refine Jc3 (step:=λ(x:Int)=>J3p_1_step s x) (λi=>((i+1:Nat):Int)) _ _ (s.length - 1) (λi hi h=> ?_) (λi r hi h=> ?_) ?_ (s.length - 1) 0 (by omega)
  ·rw[Jit,oT,oW,oN,oN,show Int.toNat (((i+1:Nat):Int) - 1)=i from by omega,Int.toNat_natCast];by_cases e:J91 (s.getD i zSg).1 (s.getD (i+1) zSg).1=true;·rw[e,oW];rfl
   rw[if_neg e]at h;cases h
  ·rw[Jit,oT,oW,oN,oN,show Int.toNat (((i+1:Nat):Int) - 1)=i from by omega,Int.toNat_natCast];by_cases e:J91 (s.getD i zSg).1 (s.getD (i+1) zSg).1=true;·rw[if_pos e]at h;cases h
   rw[if_neg e]at h;injection h with h;subst h;rw[Bool.not_eq_true]at e;rw[e];rfl
  rw[Jit,oF]
 unfold J3p Jl2;rw[h,J8a,Ku s _ _ (s.length - 1) 0 (by omega) (λj hj=>by omega)];cases incS s with|true=>show some (decide ((s.length:Int)<=5))=some (true&&decide (s.length<=5));rw[Bool.true_and];congr 1;grind|false=>rfl
def Jox(h:Hdr):List UInt8:=sha (72::Jex h)
theorem Jkb h:(Jox h).length=32:=J9z _
theorem K7a h (hh:Jaw h):J7b h=some (Jox h):=by unfold J7b;rw[Jin h hh];rfl
noncomputable def sgS(h:Hdr)(n seed:List UInt8):J9o:=(n,sigS seed h.1 (Jox h),())
def Kd0(s:List J9o):Prop:=∀x∈s,Jqw x.2.1
theorem sg_at(h:Kd0 s)(i:Nat):Jqw (s.getD i zSg).2.1:=by rw[List.getD_eq_getElem?_getD];cases e:s[i]? with|none=>exact K9v|some x=>exact h x (List.mem_of_getElem? e)
def K4g(set:List Val)(h:Int)(d:List UInt8)(x:J9o):Bool:=(Ju6 set x.1).2&&Kcp (Ju6 set x.1).1.2.2.1 h d x.2.1
def Jib(set:List Val)(h:Int)(d:List UInt8)(s:List J9o):List (List UInt8):=(s.filter (K4g set h d)).map (·.1)
def Jlo(set:List Val)(h:Hdr)(s:List J9o):List (List UInt8):=if Jl2 s then Jib set h.1 (Jox h) s else[]
theorem Jq7 set (h:Int) d (s:List J9o):(Jib set h d s).length<=s.length:=by unfold Jib;grind
theorem Jxj set (h:Int) d (s:List J9o) (hi:i<s.length):Jib set h d (s.take (i+1))=Jib set h d (s.take i)++(if K4g set h d (s.getD i zSg)then[(s.getD i zSg).1]else[]):=by unfold Jib;rw[List.take_add_one];grind
theorem Jo2 set (s:List J9o) n i (h:Hdr) (o:List (List UInt8)) d:J3o_1_step set s n i h o d=(J8b (decide (i<n)) (need (0<=i/\i<(s.length:Int)) (J89 (J3r set (s.getD (Int.toNat i) zSg).1) (λu9=>J8b u9.2 (J89 (J6z u9.1.2.2.1 h.1 d (s.getD (Int.toNat i) zSg).2.1) (λu12=>J8b u12 (need (o.length+([(s.getD (Int.toNat i) zSg).1]:List (List UInt8)).length<=2147483648) (some (.inl ((w64 (i+1)),o++([(s.getD (Int.toNat i) zSg).1]:List (List UInt8)))))) (some (.inl ((w64 (i+1)),o))))) (some (.inl ((w64 (i+1)),o)))))) (some (.inr o)):Option ((Int×List (List UInt8))⊕(List (List UInt8)))):=rfl
theorem K9u(set:List Val)(hset:set.length<=1073741824) h (hh:Jaw h) (s:List J9o) (hl:s.length<=1073741824) (hs:Kd0 s):J3o set h s=some (Jlo set h s):=by
 unfold J3o Jlo;rw[Jvf s hl,J8a];cases hr:Jl2 s with
 |false=>rfl
 | true=>
  have main:∀d:List UInt8,d.length<=100000->J3o_1 set s (s.length:Int) 0 h [] d=some (Jib set h.1 d s):=by
   intro d hd;have:=J8p (step:=λ(x:Int×List (List UInt8))=>J3o_1_step set s (s.length:Int) x.1 h x.2 d) (λi (_:Unit)=>((i:Int),Jib set h.1 d (s.take i))) (λ_ _=>()) (λ_=>Jib set h.1 d s) s.length (λ_ _=>True) (λi w hi _=>⟨?_,trivial⟩) (λw _=> ?_) s.length 0 () (by omega) trivial;·exact this
   ·have b:=Jq7 set h.1 d (s.take i);rw[List.length_take]at b;have t:=Jxj set h.1 d s hi;rw[Jo2,oT,oN,Int.toNat_natCast,Kdw set hset,J8a,t,oW];unfold K4g;cases hf:(Ju6 set (s.getD i zSg).1).2 with|false=>rw[J8t,Bool.false_and,if_neg (by simp),List.append_nil];rfl|true=>rw[Jbt,Bool.true_and,Ver_eq _ _ d hd _ (sg_at hs i),J8a];cases hv:Kcp (Ju6 set (s.getD i zSg).1).1.2.2.1 h.1 d (s.getD i zSg).2.1 with|false=>rw[J8t,if_neg (by simp),List.append_nil];rfl|true=>rw[Jbt,J8d (by simp;omega),if_pos rfl];rfl
   rw[Jo2,oF,List.take_of_length_le (Nat.le_refl _)]
  rw[show(!true)=false from rfl,J8t,K7a h hh,J8a,main _ (by rw[Jkb];omega),if_pos rfl];rfl
theorem K1k set h (s:List J9o):(Jlo set h s).length<=s.length:=by
 unfold Jlo;split;·exact Jq7 _ _ _ _
 simp
def Jly(set:List Val)(h:Hdr)(s:List J9o):Int:=pow (λv=>(Jlo set h s).contains v.1) set
def K2i(set:List Val):Int:=pow (λ_=>true) set
theorem Kc7 set (hset:Jg9 set) h s:0<=Jly set h s/\Jly set h s<=4294967296:=by have:=Jdx (λv=>(Jlo set h s).contains v.1) set hset.2;have:=hset.1;unfold Jly;omega
theorem all_b set (hset:Jg9 set):0<=K2i set/\K2i set<=4294967296:=by have:=Jdx (λ_=>true) set hset.2;have:=hset.1;unfold K2i;omega
theorem Jlu set (hset:Jg9 set) h (hh:Jaw h) (s:List J9o) (hl:s.length<=1000000) (hs:Kd0 s):J6v set h s=some (Jly set h s,K2i set):=by have:=K1k set h s;unfold J6v;rw[K9u set (by have:=hset.1;omega) h hh s (by omega) hs,J8a,Kb4 set hset _ (by omega)];rfl
theorem K3y set (hset:Jg9 set) h (hh:Jaw h) (s:List J9o) (hl:s.length<=1000000) (hs:Kd0 s):J6r set h s=some (decide (K2i set*2<Jly set h s*3)):=by unfold J6r;rw[Jlu set hset h hh s hl hs,J8a,K5j _ 2 3 (Kc7 set hset h s) (all_b set hset) (by omega) (by omega)];rfl
theorem Kfv set (hset:Jg9 set) h (hh:Jaw h) (s:List J9o) (hl:s.length<=1000000) (hs:Kd0 s):J7a set h s=some (decide (K2i set*1<Jly set h s*3)):=by unfold J7a;rw[Jlu set hset h hh s hl hs,J8a,K5j _ 1 3 (Kc7 set hset h s) (all_b set hset) (by omega) (by omega)];rfl
def Jcf(i:Nat):List UInt8:=List.set (List.set (List.replicate 32 (0:UInt8)) 0 (77:UInt8)) 1 (UInt8.ofNat i)
theorem Jhb(i:Nat):(Jcf i).length=32:=by simp[Jcf]
theorem Jx6(i:Nat):J6d (i:Int)=some (Jcf i):=by unfold J6d;rw[Jc8];rfl
noncomputable def Jjl(p:Nat->Int)(i:Nat):Val:=(nm i,p i,Jq0 (Jcf i),())
noncomputable def J8n(p:Nat->Int)(n:Nat):List Val:=(List.range n).map (Jjl p)
noncomputable def Jxx(ps:List Int):List Val:=J8n (pw ps) (Jp5 ps)
noncomputable def Jxg(p:Nat->Int)(n i:Nat):List Val:=(List.range n).map λj=>if j<i then Jjl p j else Jxh p j
theorem mid_step p n i (h:i<n):List.set (Jxg p n i) i (((Jxg p n i).getD i Jc1).1,((Jxg p n i).getD i Jc1).2.1,Jq0 (Jcf i),())=Jxg p n (i+1):=by
 have hg:(Jxg p n i).getD i Jc1=Jxh p i:=by unfold Jxg;rw[List.getD_eq_getElem?_getD,List.getElem?_map,List.getElem?_range h];simp
 rw[hg];unfold Jxg;apply List.ext_getElem;·simp
 intro j h1 h2;rw[List.getElem_set];simp;by_cases e:i=j;·subst e;rw[if_pos rfl,oI];rfl
 rw[if_neg e];by_cases c:j<i;·rw[if_pos c,oI]
 rw[if_neg c,oJ]
theorem Kw ps:1<=Jp5 ps/\Jp5 ps<=4:=by unfold Jp5;omega
theorem Kc3:∀i,i<4->∀j,j<4->nm i=nm j->i=j:=by decide
theorem Kc2:∀i,i<4->∀j,j<4->i<j->J91 (nm i) (nm j)=true:=by decide
theorem K23 p (n:Nat) (h:n<=4):Dist (J8n p n):=by unfold Dist J8n;rw[List.map_map];rw[List.nodup_iff_pairwise_ne,List.pairwise_map];refine List.Pairwise.imp_of_mem (λ{a b} ha hb hab e=>hab (Kc3 a (by have:=List.mem_range.1 ha;omega) b (by have:=List.mem_range.1 hb;omega) e)) (List.nodup_iff_pairwise_ne.1 List.nodup_range)
theorem Jxw p (n:Nat) (h:n<=4) (hp:∀i,0<=p i/\p i<=2097152):Jg9 (J8n p n):=by refine⟨by simp[J8n];omega,λv hv=> ?_⟩;obtain⟨i,_,rfl⟩:=List.mem_map.1 hv;exact hp i
theorem K98 set (hd:Dist set) (h:Hdr) (h1:1<=h.1) (h2:h.1<=16) (v:Val) (hv:v∈set) seed (hk:v.2.2.1=Jq0 seed):K4g set h.1 (Jox h) (sgS h v.1 seed)=true:=by unfold K4g sgS;rw[Kdx hd hv,hk,Kg9 _ _ _ h1 h2,Jj4];rfl
theorem K6p(h:Hdr)(h1:1<=h.1)(h2:h.1<=16) n seed:Jqw (sgS h n seed).2.1:=sig_ok seed h.1 h1 h2 _
noncomputable def sgJ(h:Hdr)(js:List Nat):List J9o:=js.map λj=>sgS h (nm j) (Jcf j)
def pwJ(p:Nat->Int)(js:List Nat):Int:=(js.map p).sum
theorem pwJ_b p (hp:∀i,0<=p i/\p i<=2097152):∀js,0<=pwJ p js/\pwJ p js<=2097152*js.length
 |[]=>⟨Int.le_refl _,Int.le_refl _⟩
 |j::js=>by
  have:=pwJ_b p hp js;have:=hp j;unfold pwJ at*
  rw[List.map_cons,List.sum_cons,List.length_cons];omega
theorem Ka6 p js ks:pwJ p (js++ks)=pwJ p js+pwJ p ks:=by unfold pwJ;rw[List.map_append,List.sum_append]
theorem K5a h (js:List Nat):K7r (sgJ h js)=js.map nm:=by unfold K7r sgJ;rw[List.map_map];rfl
theorem K4m{js:List Nat}(h1:js.Pairwise (· < ·))(h2:∀j∈js,j<4):incN (js.map nm)=true:=by refine Ke6 _ ?_;rw[List.pairwise_map];exact List.Pairwise.imp_of_mem (λ{a b} ha hb hab=>Kc2 a (h2 a ha) b (h2 b hb) hab) h1
theorem sgJ_ok(h:Hdr)(h1:1<=h.1)(h2:h.1<=16) js:Kd0 (sgJ h js):=by intro x hx;obtain⟨j,_,rfl⟩:=List.mem_map.1 hx;exact K6p h h1 h2 _ _
theorem K68 h {js:List Nat} (h1:js.Pairwise (· < ·)) (h2:∀j∈js,j<4) (h3:js.length<=4):Jl2 (sgJ h js)=true:=by unfold Jl2 incS;rw[K5a,K4m h1 h2];simp[sgJ];omega
theorem K1t q a b:pow q (a++b)=pow q a+pow q b:=by unfold pow;rw[List.filter_append,List.map_append,List.sum_append]
theorem Jsa p q f:∀n,(∀i,i<n->q (Jjl p i)=f i)->pow q (J8n p n)=pwJ p ((List.range n).filter f)
 |0,_=>rfl
 |n+1,h=>by
  have e:J8n p (n+1)=J8n p n++[Jjl p n]:=(by unfold J8n;rw[List.range_succ,List.map_append];rfl);rw[e,K1t,Jsa p q f n λi hi=>h i (by omega),List.range_succ,List.filter_append,Ka6,Ka2,Ker,h n (by omega)];by_cases c:f n;·rw[if_pos c,List.filter_cons_of_pos c];simp[pwJ,Jjl]
  rw[if_neg c,List.filter_cons_of_neg c];rfl
theorem Jwg{js:List Nat}{i:Nat}(h:∀j∈js,j<4)(hi:i<4):(js.map nm).contains (nm i)=js.contains i:=by
 rw[Bool.eq_iff_iff];simp only[List.contains_iff_mem];constructor;·intro hm;obtain⟨j,hj,e⟩:=List.mem_map.1 hm;rw[<-Kc3 j (h j hj) i hi e];exact hj
 exact λhm=>List.mem_map_of_mem hm
theorem Jmg h (i:Nat):sgJ h (List.range (i+1))=sgJ h (List.range i)++[sgS h (nm i) (Jcf i)]:=by unfold sgJ;rw[List.range_succ,List.map_append];rfl
theorem Jhc h (js:List Nat):(sgJ h js).length=js.length:=by simp[sgJ]
abbrev Block:=Hdr×List J9o×List Val×List Val×Unit
def Jw0:Block:=(Jye,([]:List J9o),([]:List Val),([]:List Val),())
def J8o(n:Nat):List (List UInt8):=(List.range n).map Jcf
def J8r(n:Nat):List (List (List UInt8)):=(List.range n).map λi=>Jbu (Jcf i)
def Ja5(n:Nat):List (List UInt8):=(List.range n).map nm
theorem Ja8 f (z:α) {n i:Nat} (h:i<n):((List.range n).map f).getD i z=f i:=by grind
theorem Jm8(f:Nat->α)(i:Nat):(List.range (i+1)).map f=(List.range i).map f++[f i]:=by rw[List.range_succ,List.map_append];rfl
theorem Jb1(f:Nat->α)(n:Nat):((List.range n).map f).length=n:=by simp
def K6o(p:Nat->Int)(n:Nat):List Val:=(List.range n).map (Jxh p)
theorem setS_v ps:setS ps=K6o (pw ps) (Jp5 ps):=rfl
theorem chain1(n:Nat)(hn:n<=4)(set:List Val):Jr_1 (n:Int) 0 set []=some (set,J8o n):=by
 have:=J8p (step:=λ(t:Int×List (List UInt8))=>Jr_1_step (n:Int) t.1 set t.2) (λi (_:Unit)=>((i:Int),J8o i)) (λ_ _=>()) (λ_=>(set,J8o n)) n (λ_ _=>True) (λi w hi _=>⟨?_,trivial⟩) (λw _=> ?_) n 0 () (by omega) trivial;·exact this
 ·unfold Jr_1_step;have hl:(J8o i).length=i:=Jb1 _ _;rw[oT,Jx6,J8a,J8d (by rw[hl];simp;omega),oW];unfold J8o;rw[Jm8];rfl
 unfold Jr_1_step;rw[oF]
theorem K57 n i (set:List Val) seeds u r ns:J06_1_step n i set seeds u r ns=(J8b (decide (i<n)) (need (0<=i/\i<(List.length set:Int)) (need (List.length ns+List.length ([(set.getD (Int.toNat i) Jc1).1]:List (List UInt8))<=2147483648) (need (0<=i/\i<(List.length seeds:Int)) (J89 (J10 (List.getD seeds (Int.toNat i) (List.replicate 32 (0:UInt8)))) (λu6=>need (List.length r+List.length ([u6]:List (List (List UInt8)))<=2147483648) (some (.inl ((w64 (i+(1:Int))),(r++([u6]:List (List (List UInt8)))),(ns++([(set.getD (Int.toNat i) Jc1).1]:List (List UInt8))))))))))) (some (.inr (set,seeds,u,r,ns))):Option ((Int×List (List (List UInt8))×List (List UInt8))⊕((List Val)×List (List UInt8)×Unit×List (List (List UInt8))×List (List UInt8)))):=rfl
theorem Jxk(p:Nat->Int)(n:Nat)(hn:n<=4):J06 (K6o p n) (J8o n)=some (K6o p n,J8o n,(),J8r n,Ja5 n):=by
 have hl:(K6o p n).length=n:=Jb1 _ _;have hs:(J8o n).length=n:=Jb1 _ _;have main:J06_1 (n:Int) 0 (K6o p n) (J8o n) () [] []=some (K6o p n,J8o n,(),J8r n,Ja5 n):=by
  have:=J8p (step:=λ(t:Int×List (List (List UInt8))×List (List UInt8))=>J06_1_step (n:Int) t.1 (K6o p n) (J8o n) () t.2.1 t.2.2) (λi (_:Unit)=>((i:Int),J8r i,Ja5 i)) (λ_ _=>()) (λ_=>(K6o p n,J8o n,(),J8r n,Ja5 n)) n (λ_ _=>True) (λi w hi _=>⟨?_,trivial⟩) (λw _=> ?_) n 0 () (by omega) trivial;·exact this
  ·have h1:(J8r i).length=i:=Jb1 _ _;have h2:(Ja5 i).length=i:=Jb1 _ _;have g1:(K6o p n).getD i Jc1=Jxh p i:=Ja8 _ _ hi;have g2:(J8o n).getD i (List.replicate 32 (0:UInt8))=Jcf i:=Ja8 _ _ hi;rw[K57,oT,oN,Int.toNat_natCast,g1,g2,J8d (by rw[h2];simp;omega),oN,Ka7 _ (Jhb i),J8a,J8d (by rw[h1];simp;omega),oW];unfold J8r Ja5;rw[Jm8,Jm8];rfl
  rw[K57,oF]
 unfold J06;rw[hl,main];rfl
theorem Jyn n i (set:List Val) u seeds r ns:Jr_2_step n i set u seeds r ns=(J8b (decide (i<n)) (need (0<=i/\i<(List.length r:Int)) (J89 (J0p (List.getD r (Int.toNat i) ([]:List (List UInt8)))) (λu15=>need (0<=i/\i<(List.length set:Int)) (some (.inl ((w64 (i+(1:Int))),(List.set set (Int.toNat i) ((set.getD (Int.toNat i) Jc1).1,(set.getD (Int.toNat i) Jc1).2.1,u15,())))))))) (some (.inr (u,seeds,r,ns,set))):Option ((Int×List Val)⊕(Unit×List (List UInt8)×List (List (List UInt8))×List (List UInt8)×List Val))):=rfl
theorem chain2(p:Nat->Int)(n:Nat)(hn:n<=4):Jr_2 (n:Int) 0 (K6o p n) () (J8o n) (J8r n) (Ja5 n)=some ((),J8o n,J8r n,Ja5 n,J8n p n):=by
 have hr:(J8r n).length=n:=Jb1 _ _;have:=J8p (step:=λ(t:Int×List Val)=>Jr_2_step (n:Int) t.1 t.2 () (J8o n) (J8r n) (Ja5 n)) (λi (_:Unit)=>((i:Int),Jxg p n i)) (λ_ _=>()) (λ_=>((),J8o n,J8r n,Ja5 n,J8n p n)) n (λ_ _=>True) (λi w hi _=>⟨?_,trivial⟩) (λw _=> ?_) n 0 () (by omega) trivial;·assumption
 ·show Jr_2_step (n:Int) (i:Int) (Jxg p n i) () (J8o n) (J8r n) (Ja5 n)=_;have hm:(Jxg p n i).length=n:=by simp[Jxg]
  have g1:(J8r n).getD i []=Jbu (Jcf i):=Ja8 _ _ hi;rw[Jyn,oT,oN,Int.toNat_natCast,g1,Jk0 _ (by rw[Jb4];omega) (Jfs _),J8a,oN,oW];show some (Sum.inl (_,List.set (Jxg p n i) i (((Jxg p n i).getD i Jc1).1,((Jxg p n i).getD i Jc1).2.1,Jq0 (Jcf i),())))=_;rw[mid_step _ _ _ hi];rfl
 rw[Jyn,oF];unfold Jxg J8n;simp_all
theorem Jyp(ps:List Int)(hp:ps.length<=140737488351232):Jr ps=some ((),J8o (Jp5 ps),J8r (Jp5 ps),Ja5 (Jp5 ps),Jxx ps):=by have hn:=Kw ps;have hl:(K6o (pw ps) (Jp5 ps)).length=Jp5 ps:=Jb1 _ _;unfold Jr;rw[set_eq ps hp,J8a,setS_v,hl,chain1 _ hn.2,J8a];rw[Jxk _ _ hn.2,J8a];rw[hl,chain2 _ _ hn.2];rfl
noncomputable def K6c:List UInt8:=sha (83::(Jep 0++Jbv []))
theorem Jva:K6c.length=32:=J9z _
theorem Jsy:J2n []=some K6c:=by
 have h1:J0i []=some []:=by unfold J0i J0i_1;rw[J96 (r:=[]) rfl];rfl
 have h2:=Jk0 [] (by simp) (λx hx=>nomatch hx);have h3:[Jep 0,Jbv []].flatten=Jep 0++Jbv []:=by simp
 have h4:(Jbv []).length<=1000000:=by rw[Jax];omega
 have h5:=J9k 0;unfold J2n;rw[h1,J8a,h2,J8a];unfold J2h;rw[show((([]:List (List UInt8×List UInt8×Unit)).length:Int))=0 from rfl,Jer,J8a,J9x _ _ (by rw[h3,List.length_append];omega) (by simp),h3];rfl
def lastB(B:List Block):Block:=B.getD (B.length - 1) Jw0
noncomputable def hdS(S:List Val)(B:List Block)(t:Int):Hdr:=if B.length=0 then(1,t,K6c,setH S,setH S,List.replicate 32 0,())else((B.length:Int)+1,t,K6c,setH (lastB B).2.2.2.1,setH S,sha (72::Jgo (lastB B).1),())
theorem Jpz S B (t:Int):Jaw (hdS S B t):=by
 unfold hdS;split;·exact⟨Jva,Jal _,Jal _,by simp⟩
 exact⟨Jva,Jal _,Jal _,J9z _⟩
theorem Ke4 S (B:List Block) (t:Int):(hdS S B t).1=(B.length:Int)+1:=by
 unfold hdS;split;·omega
 rfl
theorem hdS_t S B (t:Int):(hdS S B t).2.1=t:=by unfold hdS;split<;>rfl
def Kek(S:List Val)(B:List Block):List Val:=if B.length=0 then S else(lastB B).2.2.2.1
theorem K4k(hb:B.length<16)(h1:0<=t)(h2:t<=1073741824):Jap (hdS S B t)=true:=by rw[Jb5,Ke4,hdS_t];omega
noncomputable def blkS(n:Nat)(S:List Val)(B:List Block)(t:Int):Block:=(hdS S B t,sgJ (hdS S B t) (List.range n),Kek S B,S,())
theorem Jvs(hr:Jap h=true):Jox h=sha (72::Jgo h):=by unfold Jox Jex;rw[if_pos hr]
theorem K1f B b:lastB (B++[b])=b:=by unfold lastB;grind
theorem Jmc p (n:Nat) (h:n<=4):Jtg (J8n p n):=by
 refine⟨by simp[J8n];omega,λv hv=> ?_⟩;obtain⟨i,hi,rfl⟩:=List.mem_map.1 hv;have hi:=List.mem_range.1 hi;have:∀i,i<4->(nm i).length<=100000:=by decide
 exact⟨this i (by omega),Jax _⟩
def PrT(x:Pr):Prop:=x.1.length<=100/\x.2.1.length<=100
def Jfh(l:List Pr):Prop:=l.length<=30/\∀x∈l,PrT x
theorem Jjc(hl:l.length<=100000):Ok (J0j l k) (λr=>0<=r/\r<=l.length):=by simp only[J0j,wp];refine Jee (λi:Int=>0<=i/\i<=l.length) (λi=>l.length - i) (by simp) λi h=> ?_;simp only[J0j_1_step,wp];grind [J9n]
theorem K6h(hl:l.length<=100000):Ok (J0h l p) (λr=>r.length<=l.length+1/\∀x∈r,x=p\/x∈l):=by simp only[J0h,wp];refine(Jjc hl).imp λi h=> ?_;simp only[wp,J9v,List.length_drop];grind [J9n]
theorem Kf2(hl:l.length<=100000):Ok (J1p l k) (λr=>r.length<=l.length/\∀x∈r,x∈l):=by simp only[J1p,wp];refine Jee (λs:Int×List Pr=>0<=s.1/\s.1<=l.length/\s.2.length<=s.1/\∀x∈s.2,x∈l) (λs=>l.length - s.1) (by simp) λi h=> ?_;simp only[J1p_1_step,wp];grind [J9n]
theorem Jvk:Ok (J3b k) (λ_=>True):=by simp only[J3b,wp];grind
theorem K66:Ok (J09 a b) (λr=>r.length<=100):=by have h1:=J9k a;have h2:=J9k b;simp only[J09,Jer,wp,List.length_append];omega
theorem Kft(h0:0<=i)(h1:i<6){x:Nat}(hx:x<128):∃k:Nat,Jx5 (x:Int) (Int.toNat (((UInt64.ofNat (Int.toNat ((w64 (7*i))%18446744073709551616))).toNat:Nat):Int))=(k:Int)/\k<2^42:=by
 have e:∃n:Nat,n<=35/\Int.toNat (((UInt64.ofNat (Int.toNat ((w64 (7*i))%18446744073709551616))).toNat:Nat):Int)=n:=by
  have:i=0\/i=1\/i=2\/i=3\/i=4\/i=5:=(by omega);rcases this with rfl|rfl|rfl|rfl|rfl|rfl;·exact⟨0,by omega,by decide⟩
  ·exact⟨7,by omega,by decide⟩
  ·exact⟨14,by omega,by decide⟩
  ·exact⟨21,by omega,by decide⟩
  ·exact⟨28,by omega,by decide⟩
  exact⟨35,by omega,by decide⟩
 obtain⟨n,hn,e⟩:=e;have h2:2^n<=2^35:=Nat.pow_le_pow_right (by omega) hn;have h3:x*2^n<2^42:=by have:=Nat.mul_le_mul (Nat.le_of_lt_succ hx) h2;omega
 refine⟨x*2^n, ?_,h3⟩;rw[e];unfold Jx5;rw[Nat.min_eq_left (by omega),show(x:Int)*2^n=((x*2^n:Nat):Int)by push_cast;rfl,oW]
theorem Jq9:Ok (J0r s) (λr=>0<=r.2/\r.2<=s.length/\0<=r.1):=by
 simp only[J0r,wp];refine(Jee (Q:=λr:(Int×Int)⊕Unit=>match r with| .inl a=>0<=a.2/\a.2<=s.length/\0<=a.1| .inr _=>True) (λi:Int×Int=>0<=i.2/\i.2<=6/\∃k:Nat,i.1=k/\k<2^42) (λi=>6 - i.2) ⟨by simp,by simp,0,rfl,by omega⟩ λi h=> ?_).imp λr h=> ?_
 ·obtain⟨h1,h2,k,hk,hk2⟩:=h;have e1:=oX (i.2+1);simp only[J0r_1_step,wp,e1,hk];by_cases c:i.2<6;·have hb:(UInt8.toNat ((s.getD i.2.toNat 0)&&& (127:UInt8)))<128:=(by exact Nat.lt_of_le_of_lt Nat.and_le_right (by decide));obtain⟨j,hj,hj2⟩:=Kft h1 c hb;have ho:=Nat.or_lt_two_pow hk2 hj2;have eb:=Jwa k j (by omega);simp only[hj,eb];repeat' first|omega|trivial|exact⟨_,rfl,ho⟩|intro _|with_reducible apply And.intro
  repeat' first|omega|trivial|contradiction|intro _|with_reducible apply And.intro
 cases r with|inl a=>exact Jkh.2 h|inr a=>exact Jkh.2 (by simp)
theorem Jof(h:s.length<=1000):Ok (J3c s) (λr=>0<=r.1/\r.1<=1073741824/\0<=r.2.1/\r.2.1<=1073741824):=by simp only[J3c,wp];exact Jq9.imp λa ha=>⟨λ_=>by simp,λ_=>⟨by omega,Jq9.imp λb hb=>by repeat' first|omega|simp;done|intro _|with_reducible apply And.intro⟩⟩
theorem Jmt(hl:l.length<=1000)(h:∀x∈l,PrT x):Ok (Ji l) (λr=>r.2=true->0<=r.1/\r.1<=1073741824):=by
 simp only[Ji,wp];refine(Jee (Q:=λr:(Int×Bool)⊕Int=>match r with| .inl a=>a.2=false| .inr a=>0<=a) (λi:Int×Int=>0<=i.2/\i.2<=l.length/\0<=i.1/\i.1<=2147483648*i.2) (λi=>l.length - i.2) (by simp) λi hi=> ?_).imp λr h=> ?_
 ·have e1:=oX (i.2+1);simp only[Ji_1_step,wp,e1];refine⟨λc=>⟨by omega,Jvk.imp λb _=> ?_⟩,by omega⟩;have hg:(l.getD i.2.toNat (([]:List UInt8),([]:List UInt8),())).2.1.length<=1000:=by rw[List.getD_eq_getElem?_getD,List.getElem?_eq_getElem (by omega)];have:=(h _ (List.getElem_mem (l:=l) (n:=i.2.toNat) (by omega))).2;simp only[Option.getD_some];omega
  refine⟨by omega,λ_=>(Jof hg).imp λu hu=>⟨λ_=>by trivial,λ_=> ?_⟩⟩;rw[oX (i.1+u.1),oW];omega
 cases r with|inl a=>exact Jkh.2 (by simp[h])|inr a=>simp only[wp];exact⟨λ_=>by simp,λc=>by simp only[not_false_eq_true]at*;omega⟩
theorem Kb2(h:Jfh l)(k:Int)(n:List UInt8) a b (hn:n.length<=50):Ok (J2y l k n a b) (λr=>Jfh r.1):=by
 have hl:=h.1;have set:∀{v:List UInt8},v.length<=100->Ok (J0h l ((([115,47]:List UInt8)++n),v,())) (λr=>r.length<=31/\∀x∈r,PrT x):=λhv=>(K6h (by omega)).imp λr hr=>⟨by omega,λx hx=>by
  rcases hr.2 x hx with rfl|hx;·exact⟨by simp;omega,hv⟩
  exact h.2 x hx⟩
 have fin:∀{x y:Int},Ok (J09 x y) (λv=>Ok (J0h l ((([115,47]:List UInt8)++n),v,())) λu=>(30<(u.length:Int)->Jfh l)/\(¬30<(u.length:Int)->Ok (Ji u) λw=>(w.2=false->Jfh l)/\(w.2=true->Jfh u))):=K66.imp λv hv=>(set hv).imp λu hu=>⟨λ_=>h,λc=>(Jmt (by omega) hu.2).imp λw _=>⟨λ_=>h,λ_=>⟨by omega,hu.2⟩⟩⟩;unfold J2y;simp only[wp,List.length_cons,List.length_nil];have hg:∀(i:Int) (d:Pr),0<=i->i<l.length->(l.getD i.toNat d).2.1.length<=1000:=λi d c0 c=>by rw[List.getD_eq_getElem?_getD,List.getElem?_eq_getElem (by omega)];have:=(h.2 _ (List.getElem_mem (n:=i.toNat) (by omega))).2;simp;omega
 repeat' first|exact h|exact fin|omega|intro _|apply And.intro|refine(Jjc (by omega)).imp λi hi=> ?_|refine(Jof (hg _ _ hi.1 ‹_›)).imp λu _=> ?_
theorem Kq:Ok (J3z p) (λr=>r=true->p.1.length<=16/\p.2.1.length<=24):=by simp only[J3z,wp];grind
def ValT(v:Val):Prop:=v.1.length<=100/\v.2.2.1.length=32/\0<=v.2.1/\v.2.1<=1048576
def K2h(l:List Val):Prop:=l.length<=10/\∀v∈l,ValT v
abbrev Chn:=List (List UInt8)×List (List (List UInt8))×List (List UInt8)×List Pr×List Val×List Block×List (List Pr)×Unit
def DoT(c d:Chn):Prop:=d.1=c.1/\d.2.1=c.2.1/\d.2.2.1=c.2.2.1/\Jfh d.2.2.2.1/\K2h d.2.2.2.2.1/\d.2.2.2.2.2=c.2.2.2.2.2
theorem Kdf(hr:Jfh c.2.2.2.1)(hs:K2h c.2.2.2.2.1)(t:Int×List UInt8×List UInt8×Int×Int×Unit)(ht:t.2.1.length<=50):Ok (J08 t c) (λr=>DoT c r.2):=by
 have h0:DoT c c:=⟨rfl,rfl,rfl,hr,hs,rfl⟩;have hl:=hr.1;have hx:=hs.1;have lp:1<=t.2.2.2.1->t.2.2.2.1<=1048576->Ok (J08_1 c.2.2.2.2.1 (c.2.2.2.2.1.length:Int) 0 c t) (λr=>match r with| .inl a=>DoT c (a.2.1,a.2.2.1,a.2.2.2.1,a.2.2.2.2.1,a.2.2.2.2.2.2,a.2.2.2.2.2.1.1,a.2.2.2.2.2.1.2.1,())| .inr d=>DoT c d):=λt1 t2=>by
  refine Jee (λi:Int=>0<=i/\i<=c.2.2.2.2.1.length) (λi=>c.2.2.2.2.1.length - i) (by simp) λi h=> ?_;simp only[J08_1_step,wp,List.nil_append,List.length_nil];refine⟨λq=>⟨by omega,λe=>⟨by omega,by omega,rfl,rfl,rfl,hr,⟨by simpa using hx,λv hv=> ?_⟩,rfl⟩,by grind [J9n]⟩,λ_=>h0⟩;have hg:c.2.2.2.2.1.getD i.toNat (([]:List UInt8),(0:Int),List.replicate 32 (0:UInt8),())∈c.2.2.2.2.1:=(by rw[List.getD_eq_getElem?_getD,List.getElem?_eq_getElem (by omega)];exact List.getElem_mem ..);rcases List.mem_or_eq_of_mem_set hv with hv|rfl;·exact hs.2 v hv
  have:=hs.2 _ hg;exact⟨this.1,this.2.1,by dsimp only;omega,by dsimp only;omega⟩
 simp only[J08,wp];have st:∀k,Ok (J2y c.2.2.2.1 k t.2.1 t.2.2.2.1 t.2.2.2.2.1) (λu=>DoT c (c.1,c.2.1,c.2.2.1,u.1,c.2.2.2.2.1,c.2.2.2.2.2.1,c.2.2.2.2.2.2.1,())):=λk=>(Kb2 hr _ _ _ _ ht).imp λu hu=>⟨rfl,rfl,rfl,hu,hs,rfl⟩;have dl:Ok (J1p c.2.2.2.1 t.2.1) (λu=>DoT c (c.1,c.2.1,c.2.2.1,u,c.2.2.2.2.1,c.2.2.2.2.2.1,c.2.2.2.2.2.2.1,())):=(Kf2 (by omega)).imp λu hu=>⟨rfl,rfl,rfl,⟨by dsimp only;omega,λx hx=>hr.2 x (hu.2 x hx)⟩,hs,rfl⟩;have set:t.2.1.length<=16/\t.2.2.1.length<=24->Ok (J0h c.2.2.2.1 (t.2.1,t.2.2.1,())) (λu=>(30<(u.length:Int)->DoT c c)/\(¬30<(u.length:Int)->DoT c (c.1,c.2.1,c.2.2.1,u,c.2.2.2.2.1,c.2.2.2.2.2.1,c.2.2.2.2.2.2.1,()))):=λq=>(K6h (by omega)).imp λu hu=>⟨λ_=>h0,λ_=>⟨rfl,rfl,rfl,⟨by dsimp only;omega,λx hx=>by
  rcases hu.2 x hx with rfl|hx;·exact⟨by dsimp only;omega,by dsimp only;omega⟩
  exact hr.2 x hx⟩,hs,rfl⟩⟩
 repeat' first|exact h0|exact st _|exact dl|omega|intro _|refine⟨λ_=> ?_,λ_=> ?_⟩|refine Kq.imp λb hb=> ?_|refine Jvk.imp λ_ _=> ?_|refine(lp (by omega) (by omega)).imp λr hq=> ?_
 ·rename_i e _ _ _;exact set (hb e)
 cases r<;>exact Jkh.2 hq
abbrev eqH(x y:List UInt8):Bool:=Ty.beq (.arr 32 (.int .u8)) x y
abbrev Cli:=List Hdr×List Val×Int×Bool×Unit
def Jw5(l:List Val):Prop:=∀v∈l,v.2.2.1.length=32
def K7s(b:Block):Prop:=Jaw b.1/\Kd0 b.2.1/\b.2.1.length<=1000000/\Jw5 b.2.2.1/\Jw5 b.2.2.2.1/\b.2.2.1.length<=1000000/\b.2.2.2.1.length<=1000000
theorem Jok(h:Jfa l=true):Jg9 l/\l.length<=5/\1<=l.length/\∀v∈l,v.1.length<=16:=by
 unfold Jfa at h;simp only[Bool.and_eq_true,decide_eq_true_eq]at h;obtain⟨h1,h2,h3⟩:=h;have key:∀v∈l,Kef v=true:=by intro v hv;obtain⟨i,hi,rfl⟩:=List.getElem_of_mem hv;have:=List.all_eq_true.1 h1 i (List.mem_range.2 hi);unfold K9x at this;grind
 have key2:∀v∈l,v.1.length<=16/\1<=v.2.1/\v.2.1<=1048576:=by intro v hv;have:=key v hv;unfold Kef at this;grind
 exact⟨⟨by omega,λv hv=>by have:=key2 v hv;omega⟩,h3,h2,λv hv=>(key2 v hv).1⟩
theorem Jsj(h:Jfa l=true)(hk:Jw5 l):Jtg l:=by obtain⟨_,h2,_,h4⟩:=Jok h;exact⟨by omega,λv hv=>⟨by have:=h4 v hv;omega,hk v hv⟩⟩
def Jp0(b:Block):Bool:=Jap b.1&&(Jfa b.2.2.1&&(Jfa b.2.2.2.1&&(decide (b.2.1.length<=5)&&(eqH (setH b.2.2.1) b.1.2.2.2.1&&eqH (setH b.2.2.2.1) b.1.2.2.2.2.1))))
theorem Kba b (hb:K7s b):J7e b=some (Jp0 b):=by
 obtain⟨b1,b2,b3,b4,b5,b6,b7⟩:=hb;unfold J7e Jp0;rw[Jf9,J8a];cases c1:Jap b.1 with
 |false=>rfl
 | true=>
  rw[Jbt,right_eq _ (by omega),J8a];cases c2:Jfa b.2.2.1 with
  |false=>rfl
  | true=>
   rw[Jbt,right_eq _ (by omega),J8a];cases c3:Jfa b.2.2.2.1 with
   |false=>rfl
   |true=>
    by_cases c4:b.2.1.length<=5;·rw[oT,Jb7 _ (Jsj c2 b4),J8a,decide_eq_true c4];cases c5:Ty.beq (.arr 32 (.int .u8)) (setH b.2.2.1) b.1.2.2.2.1 with|false=>rw[show eqH (setH b.2.2.1) b.1.2.2.2.1=false from c5];rfl|true=>rw[show eqH (setH b.2.2.1) b.1.2.2.2.1=true from c5,Jbt,Jb7 _ (Jsj c3 b5)];rfl
    rw[oF,decide_eq_false c4];rfl
def lastH(c:Cli):Hdr:=c.1.getD (c.1.length - 1) Jye
theorem Jxa(c:Cli):J2z c=need (0<=(w64 ((List.length c.1:Int) - (1:Int)))/\(w64 ((List.length c.1:Int) - (1:Int)))<(List.length c.1:Int)) (some (List.getD c.1 (Int.toNat (w64 ((List.length c.1:Int) - (1:Int)))) Jye)):=rfl
theorem Juk(c:Cli)(h1:1<=c.1.length)(h2:c.1.length<=1000000):J2z c=some (lastH c):=by rw[Jxa,oW,oN];congr 2;omega
def K7u(c:Cli):Prop:=1<=c.1.length/\c.1.length<=1000000/\Jg9 c.2.1/\(0<=(lastH c).1/\(lastH c).1<=1099511627776)/\(0<=(lastH c).2.1/\(lastH c).2.1<=1099511627776)
theorem Jkr(now:Int)(c:Cli)(hc:K7u c)(hn: -1099511627776<=now/\now<=1099511627776):J16 now c=some (decide (c.2.2.1<now - (lastH c).2.1)):=by obtain⟨h1,h2,_,_,h5⟩:=hc;unfold J16;rw[Juk c h1 h2,J8a,oW]
theorem Jj8(l:List Val)(h:l.length<=2147483648):J8 l=some l:=by unfold J8;rw[J8d h]
theorem Jmw(l:List Hdr)(h:l.length<=2147483648):J0b l=some l:=by unfold J0b;rw[J8d h]
def enS(set:List Val)(h:Hdr)(s:List J9o):Bool:=decide (K2i set*2<Jly set h s*3)
def soS(set:List Val)(h:Hdr)(s:List J9o):Bool:=decide (K2i set*1<Jly set h s*3)
def K3m(l:List Hdr):List Hdr:=if 6<l.length then l.drop 1 else l
def updS(b:Block)(now:Int)(c:Cli):Int×Cli:=if c.2.2.2.1=true then(5,c)else if Jp0 b=false then(1,c)else if b.1.1<=(lastH c).1 then(8,c)else if b.1.2.1<=(lastH c).2.1 then(1,c)else if c.2.2.1<now - (lastH c).2.1 then(6,c)else if now<b.1.2.1 then(6,c)else if b.1.1=(lastH c).1+1/\eqH b.1.2.2.2.1 (lastH c).2.2.2.2.1=false then(9,c)else if enS b.2.2.1 b.1 b.2.1=false then(9,c)else if b.1.1≠(lastH c).1+1/\soS c.2.1 b.1 b.2.1=false then(9,c)else(0,(K3m (c.1++[b.1]),b.2.2.2.1,c.2.2.1,c.2.2.2.1,()))
theorem Kfy(b:Block)(c:Cli)(hc:c.1.length<=1000000)(hb:b.2.2.2.1.length<=1000000):(J89 (J0b c.1) (λu22=>need (List.length u22+List.length ([b.1]:List Hdr)<=2147483648) (J8b (decide ((6:Int)<(List.length (u22++([b.1]:List Hdr)):Int))) (need (0<=(1:Int)/\(1:Int)<=(List.length (u22++([b.1]:List Hdr)):Int)/\(List.length (u22++([b.1]:List Hdr)):Int)<=(List.length (u22++([b.1]:List Hdr)):Int)) (J89 (J8 b.2.2.2.1) (λu27=>some ((0:Int),((J9v (u22++([b.1]:List Hdr)) (1:Int) (List.length (u22++([b.1]:List Hdr)):Int)),u27,c.2.2.1,c.2.2.2.1,()))))) (J89 (J8 b.2.2.2.1) (λu29=>some ((0:Int),((u22++([b.1]:List Hdr)),u29,c.2.2.1,c.2.2.2.1,())))))):Option (Int×Cli))=some (0,(K3m (c.1++[b.1]),b.2.2.2.1,c.2.2.1,c.2.2.2.1,())):=by
 have h1:([b.1]:List Hdr).length=1:=rfl;rw[Jmw _ (by omega),J8a,oN];unfold K3m;by_cases h:(6:Int)<((c.1++[b.1]).length:Int);·rw[J8y h,oN,Jj8 _ (by omega),oI,Jbn];rfl
 rw[J93 h,Jj8 _ (by omega),J8a,oJ]
theorem Kcn b (now:Int) c (hb:K7s b) (hc:K7u c) (hn: -1099511627776<=now/\now<=1099511627776):J30 b now c=some (updS b now c):=by
 have hex:=Jkr now c hc hn;obtain⟨c1,c2,c3,c4,c5⟩:=hc;have hw:=Kba b hb;obtain⟨b1,b2,b3,b4,b5,b6,b7⟩:=hb;have wl:w64 ((lastH c).1+1)=(lastH c).1+1:=oW;have htail:=Kfy b c (by omega) (by omega);unfold J30 updS;rw[Juk c c1 c2,J8a];by_cases q1:c.2.2.2.1=true;·rw[q1,Jbt,if_pos rfl]
 rw[if_neg q1];have q1:c.2.2.2.1=false:=by simpa using q1
 rw[q1]at htail⊢;rw[J8t,hw,J8a];cases q2:Jp0 b with
 |false=>rw[if_pos rfl];rfl
 |true=>
  rw[if_neg (by simp),Bool.not_true,J8t];have hset:Jg9 b.2.2.1:=(by unfold Jp0 at q2;simp only[Bool.and_eq_true]at q2;exact(Jok q2.2.1).1);by_cases q3:b.1.1<=(lastH c).1;·rw[J8y q3,if_pos q3]
  rw[J93 q3,if_neg q3];by_cases q4:b.1.2.1<=(lastH c).2.1;·rw[J8y q4,if_pos q4]
  rw[J93 q4,if_neg q4,hex,J8a];by_cases q5:c.2.2.1<now - (lastH c).2.1;·rw[J8y q5,if_pos q5]
  rw[J93 q5,if_neg q5];by_cases q6:now<b.1.2.1;·rw[J8y q6,if_pos q6]
  rw[J93 q6,if_neg q6,wl];have en:=K3y b.2.2.1 hset b.1 b1 b.2.1 b3 b2;have so:=Kfv c.2.1 c3 b.1 b1 b.2.1 b3 b2;rw[show decide (K2i b.2.2.1*2<Jly b.2.2.1 b.1 b.2.1*3)=enS b.2.2.1 b.1 b.2.1 from rfl]at en;rw[show decide (K2i c.2.1*1<Jly c.2.1 b.1 b.2.1*3)=soS c.2.1 b.1 b.2.1 from rfl]at so;by_cases q7:b.1.1=(lastH c).1+1;·rw[J8y q7];cases q8:Ty.beq (.arr 32 (.int .u8)) b.1.2.2.2.1 (lastH c).2.2.2.2.1 with|false=>rw[if_pos ⟨q7,q8⟩];rfl|true=>rw[if_neg (by rw[show eqH b.1.2.2.2.1 (lastH c).2.2.2.2.1=true from q8];simp),Bool.not_true,J8t,en,J8a];cases q9:enS b.2.2.1 b.1 b.2.1 with|false=>rw[if_pos rfl];rfl|true=>rw[if_neg (by simp),Bool.not_true,J8t,Jd2 q7,if_neg (λh=>h.1 q7)];exact htail
  rw[J93 q7,if_neg (λh=>q7 h.1),en,J8a];cases q9:enS b.2.2.1 b.1 b.2.1 with|false=>rw[if_pos rfl];rfl|true=>rw[if_neg (by simp),Bool.not_true,J8t,Jdt q7,so,J8a];cases q10:soS c.2.1 b.1 b.2.1 with|false=>rw[if_pos ⟨q7,rfl⟩];rfl|true=>rw[if_neg (by simp),Bool.not_true,J8t];exact htail
def newS(h:Hdr)(next:List Val)(p:Int):Int⊕(Int×Cli):=if Jap h=true/\Jfa next=true/\eqH h.2.2.2.2.1 (setH next)=true/\(0<=p/\p<=1073741824)then .inr (0,([h],next,p,false,()))else .inl 1
theorem new_eq h (next:List Val) (p:Int) (hk:Jw5 next) (hl:next.length<=1000000):J78 h next p=some (newS h next p):=by
 unfold J78 newS;rw[Jf9,J8a];cases q1:Jap h with
 |false=>rw[if_neg (by simp)];rfl
 | true=>
  rw[Bool.not_true,J8t,right_eq _ (by omega),J8a];cases q2:Jfa next with
  |false=>rw[if_neg (by simp)];rfl
  | true=>
   rw[Bool.not_true,J8t,Jb7 _ (Jsj q2 hk),J8a];cases q3:Ty.beq (.arr 32 (.int .u8)) h.2.2.2.2.1 (setH next)with
   |false=>rw[if_neg (by rw[show eqH h.2.2.2.2.1 (setH next)=false from q3];simp)];rfl
   | true=>
    unfold J7j;by_cases q4:0<=p
    ·rw[J8y q4];by_cases q5:p<=1073741824;·rw[decide_eq_true q5,Bool.not_true,J8t,Jj8 _ (by omega),if_pos ⟨rfl,rfl,q3,q4,q5⟩];rfl
     rw[decide_eq_false q5,oJ];rfl
    rw[J93 q4,oJ];rfl
theorem K1l p (hn:n<=4) (h:Hdr) (h1:1<=h.1) (h2:h.1<=16) (q1:js.Pairwise (· < ·)) (q2:∀j∈js,j<n) (q3:js.length<=4):Jlo (J8n p n) h (sgJ h js)=js.map nm:=by
 unfold Jlo Jib;rw[if_pos (K68 h q1 (λj hj=>by have:=q2 j hj;omega) q3),List.filter_eq_self.2,<-K5a h js];·rfl
 intro x hx;obtain⟨j,hj,rfl⟩:=List.mem_map.1 hx;exact K98 _ (K23 p n hn) h h1 h2 (Jjl p j) (List.mem_map_of_mem (List.mem_range.2 (q2 j hj))) (Jcf j) rfl
theorem K95 g (n:Nat):((List.range n).filter g).Pairwise (· < ·):=List.Pairwise.filter _ List.pairwise_lt_range
theorem K4a(h:j∈(List.range n).filter g):j<n:=List.mem_range.1 (List.mem_filter.1 h).1
theorem Jru g (n:Nat):((List.range n).filter g).length<=n:=by grind
theorem Juy p (hn:n<=4) (h:Hdr) (h1:1<=h.1) (h2:h.1<=16) g:Jly (J8n p n) h (sgJ h ((List.range n).filter g))=pwJ p ((List.range n).filter g):=by have hl:=Jru g n;unfold Jly;rw[K1l p hn h h1 h2 (K95 g n) (λj hj=>K4a hj) (by omega)];refine Jsa p _ g n λi hi=> ?_;show(((List.range n).filter g).map nm).contains (nm i)=g i;rw[Jwg (λj hj=>by have:=K4a hj;omega) (by omega)];grind
theorem Jrt(n:Nat):(List.range n).filter (λ_=>true)=List.range n:=List.filter_eq_self.2 λ_ _=>rfl
theorem Jtm p (n:Nat):K2i (J8n p n)=pwJ p (List.range n):=by unfold K2i;rw[Jsa p (λ_=>true) (λ_=>true) n (λ_ _=>rfl),Jrt]
def Jkj(p:Nat->Int):Prop:=∀i,1<=p i/\p i<=1000000
theorem Kev ps:Jkj (pw ps):=λi=>by have:=pw_b ps i;omega
theorem Jkj.s(h:Jkj p):∀i,0<=p i/\p i<=2097152:=λi=>by have:=h i;omega
theorem Keu(h:Jkj p):∀js:List Nat,js≠[]->1<=pwJ p js
 |[],e=>absurd rfl e
 |j::js,_=>by
  have:=h j;have:=pwJ_b p h.s js;unfold pwJ at*
  grind
theorem Ka8(h:1<=n):List.range n≠[]:=λe=>by have:=congrArg List.length e;simp at this;omega
theorem Jg1(hp:Jkj p)(h1:1<=n)(hn:n<=4):Jfa (J8n p n)=true:=by
 have hl:(J8n p n).length=n:=by simp[J8n]
 have hg:∀i,i<n->(J8n p n).getD i Jc1=Jjl p i:=λi hi=>Ja8 _ _ hi;have h2:∀i,i<4->nm i≠[]/\(nm i).length<=16:=by decide
 unfold Jfa;rw[hl];simp only[Bool.and_eq_true,decide_eq_true_eq];refine⟨List.all_eq_true.2 λi hi=> ?_,by omega,by omega⟩;have hi:=List.mem_range.1 hi;obtain⟨a,b⟩:=h2 i (by omega);have:=hp i;unfold K9x Kef;rw[hg i hi];simp only[Bool.and_eq_true,Bool.or_eq_true,Bool.not_eq_true',decide_eq_true_eq,decide_eq_false_iff_not,beq_iff_eq];refine⟨⟨a, ?_,this.1, ?_⟩, ?_⟩;·show((nm i).length:Int)<=16;omega
 ·show p i<=1048576;omega
 by_cases c:i=0;·exact .inl c
 right;rw[hg (i - 1) (by omega)];exact Kc2 (i - 1) (by omega) i (by omega) (by omega)
theorem Jom p (n:Nat):Jw5 (J8n p n):=by intro v hv;obtain⟨i,hi,rfl⟩:=List.mem_map.1 hv;exact Jax _
theorem Jv9(hp:Jkj p)(hn:n<=4):Jg9 (J8n p n):=Jxw p n hn hp.s
noncomputable def blF(n:Nat)(S:List Val)(f:Nat->Int):Nat->List Block
 |0=>[]
 |k+1=>blF n S f k++[blkS n S (blF n S f k) (f k)]
noncomputable def hF(n:Nat)(S:List Val)(f:Nat->Int)(j:Nat):Hdr:=hdS S (blF n S f j) (f j)
def Rise(f:Nat->Int):Prop:=(∀i,i<16->0<=f i/\f i<=1000000000)/\∀i,i+1<16->f i<f (i+1)
theorem Rise.lt(h:Rise f):∀{j:Nat},i<j->j<16->f i<f j
 |j+1,hij,hj=>by
  have:=h.2 j hj;rcases Nat.lt_or_ge i j with c|c;·have:=h.lt c (by omega);omega
  grind
def Knows(S:List Val)(P:Int)(h:Hdr)(c:Cli):Prop:=1<=c.1.length/\c.1.length<=1000/\lastH c=h/\c.2.1=S/\c.2.2.1=P/\c.2.2.2.1=false
theorem Jq3 l h x:lastH (l++[h],x)=h:=by unfold lastH;grind
theorem K4u(l:List Hdr) h x (hl:1<=l.length):lastH (K3m (l++[h]),x)=h:=by
 unfold K3m;split;·rw[List.drop_append_of_le_length hl];exact Jq3 _ _ _
 exact Jq3 _ _ _
noncomputable def hdR(r:List UInt8)(S:List Val)(B:List Block)(t:Int):Hdr:=if B.length=0 then(1,t,r,setH S,setH S,List.replicate 32 0,())else((B.length:Int)+1,t,r,setH (lastB B).2.2.2.1,setH S,sha (72::Jgo (lastB B).1),())
theorem K1d(hr32:r.length=32) S B (t:Int):Jaw (hdR r S B t):=by
 unfold hdR;split;·exact⟨hr32,Jal _,Jal _,by simp⟩
 exact⟨hr32,Jal _,Jal _,J9z _⟩
theorem hdR_1 r S (B:List Block) (t:Int):(hdR r S B t).1=(B.length:Int)+1:=by
 unfold hdR;split;·omega
 rfl
theorem hdR_t r S B (t:Int):(hdR r S B t).2.1=t:=by unfold hdR;split<;>rfl
theorem K9a r S B (t:Int):(hdR r S B t).2.2.2.2.1=setH S:=by unfold hdR;split<;>rfl
theorem K9b r S B (t:Int):(hdR r S B t).2.2.2.1=setH (Kek S B):=by unfold hdR Kek;split<;>rfl
theorem K4j(hb:B.length<16)(h1:0<=t)(h2:t<=1073741824):Jap (hdR r S B t)=true:=by rw[Jb5,hdR_1,hdR_t];omega
noncomputable def blkR(n:Nat)(r:List UInt8)(S:List Val)(B:List Block)(t:Int):Block:=(hdR r S B t,sgJ (hdR r S B t) (List.range n),Kek S B,S,())
noncomputable def blG(n:Nat)(r:Nat->List UInt8)(S:Nat->List Val)(f:Nat->Int):Nat->List Block
 |0=>[]
 |k+1=>blG n r S f k++[blkR n (r k) (S k) (blG n r S f k) (f k)]
noncomputable def hG(n:Nat)(r:Nat->List UInt8)(S:Nat->List Val)(f:Nat->Int)(j:Nat):Hdr:=hdR (r j) (S j) (blG n r S f j) (f j)
def Jpd(S:Nat->List Val)(j:Nat):List Val:=if j=0 then S 0 else S (j - 1)
noncomputable def genB(n:Nat)(r:Nat->List UInt8)(S:Nat->List Val)(f:Nat->Int)(j:Nat):Block:=(hG n r S f j,sgJ (hG n r S f j) (List.range n),Jpd S j,S j,())
theorem Jfk(n:Nat) r S f:∀k,(blG n r S f k).length=k
 |0=>rfl
 |k+1=>by rw[blG,List.length_append,Jfk n r S f k];rfl
theorem nowG(n:Nat) r S f:∀k,Kek (S k) (blG n r S f k)=Jpd S k
 |0=>rfl
 |k+1=>by unfold Kek Jpd;rw[Jfk,blG,K1f];rfl
theorem K35(n:Nat) r S f:∀{k j:Nat},j<k->(blG n r S f k).getD j Jw0=genB n r S f j
 |k+1,j,h=>by
  rw[blG];rcases Nat.lt_or_ge j k with c|c;·rw[List.getD_eq_getElem?_getD,List.getElem?_append_left (by rw[Jfk];exact c)];exact K35 n r S f c
  have:j=k:=(by omega);subst this;rw[List.getD_eq_getElem?_getD,List.getElem?_append_right (by rw[Jfk];omega),Jfk];simp;unfold blkR;rw[nowG];rfl
theorem Jtp(n:Nat):∀k,(∀j,j<k->r j=r' j/\S j=S' j/\f j=f' j)->blG n r S f k=blG n r' S' f' k
 |0,_=>rfl
 |k+1,h=>by obtain⟨a,b,c⟩:=h k (Nat.lt_succ_self k);rw[blG,blG,Jtp n k (λj hj=>h j (by omega)),a,b,c]
theorem Ke1(n:Nat) r S f (j:Nat):(hG n r S f j).1=(j:Int)+1:=by unfold hG;rw[hdR_1,Jfk]
theorem hG_t(n:Nat) r S f (j:Nat):(hG n r S f j).2.1=f j:=hdR_t _ _ _ _
theorem Ke2(n:Nat) r S f (j:Nat):(hG n r S f j).2.2.1=r j:=by unfold hG hdR;split<;>rfl
theorem Jx2(n:Nat) r S f (j:Nat):(hG n r S f j).2.2.2.2.1=setH (S j):=K9a _ _ _ _
theorem K4i(n:Nat) r S f (j:Nat):(hG n r S f j).2.2.2.1=setH (Jpd S j):=by unfold hG;rw[K9b,nowG]
theorem Jnd(n:Nat) S f (hr:(r j).length=32):Jaw (hG n r S f j):=K1d hr _ _ _
theorem Jm5(hj:j<16)(h1:0<=f j)(h2:f j<=1073741824):Jap (hG n r S f j)=true:=K4j (by rw[Jfk];exact hj) h1 h2
theorem K9m(n:Nat) r S f (k:Nat):lastB (blG n r S f (k+1))=genB n r S f k:=by unfold lastB;rw[Jfk];exact K35 n r S f (by omega)
theorem preR(P:Nat->Nat->Int)(n j:Nat):Jpd (λk=>J8n (P k) n) j=J8n (if j=0 then P 0 else P (j - 1)) n:=by unfold Jpd;split<;>rfl
def Jmn(m:Nat)(f:Nat->Int):Prop:=(∀i,i<m->0<=f i/\f i<=1000000000)/\∀i,i+1<m->f i<f (i+1)
theorem Jmn.lt(h:Jmn m f):∀{j:Nat},i<j->j<m->f i<f j
 |j+1,hij,hj=>by
  have:=h.2 j hj;rcases Nat.lt_or_ge i j with c|c;·have:=h.lt c (by omega);omega
  grind
noncomputable def sgB(n:Nat)(r:Nat->List UInt8)(P:Nat->Nat->Int)(f:Nat->Int)(j:Nat)(g:Nat->Bool):Block:=(hG n r (λk=>J8n (P k) n) f j,sgJ (hG n r (λk=>J8n (P k) n) f j) ((List.range n).filter g),Jpd (λk=>J8n (P k) n) j,J8n (P j) n,())
def pB(P:Nat->Nat->Int)(j:Nat):Nat->Int:=if j=0 then P 0 else P (j - 1)
theorem pB_ok(hP:∀j,Jkj (P j))(j:Nat):Jkj (pB P j):=by unfold pB;split<;>exact hP _
theorem sgB_ok(hn:n<=4){r:Nat->List UInt8}(P:Nat->Nat->Int)(f:Nat->Int){j:Nat}(hj:j<16)(hr:(r j).length=32)(g:Nat->Bool):K7s (sgB n r P f j g):=by
 have hl:∀p,(J8n p n).length=n:=λp=>by simp[J8n]
 have h1:=Ke1 n r (λk=>J8n (P k) n) f j;refine⟨Jnd n _ f hr,sgJ_ok _ (by omega) (by omega) _, ?_, ?_,Jom _ n, ?_, ?_⟩;·show(sgJ _ _).length<=1000000;have:=Jru g n;rw[Jhc];omega
 ·show Jw5 (Jpd (λk=>J8n (P k) n) j);rw[preR];exact Jom _ n
 ·show(Jpd (λk=>J8n (P k) n) j).length<=1000000;rw[preR,hl];omega
 show(J8n (P j) n).length<=1000000;rw[hl];omega
theorem K7i(h1:1<=n)(hn:n<=4){r:Nat->List UInt8}{P:Nat->Nat->Int}(hP:∀j,Jkj (P j)){f:Nat->Int}{j:Nat}(hj:j<16)(q1:0<=f j)(q2:f j<=1073741824)(g:Nat->Bool):Jp0 (sgB n r P f j g)=true:=by have hfl:=Jru g n;unfold Jp0 sgB;rw[Jm5 hj q1 q2,preR,Jg1 (show Jkj (if j=0 then P 0 else P (j - 1))from pB_ok hP j) h1 hn,Jg1 (hP j) h1 hn,K4i,preR,Jx2];rw[decide_eq_true (by rw[Jhc];omega),show ∀s,eqH (setH s) (setH s)=true from λs=>Jj4 _,show ∀s,eqH (setH s) (setH s)=true from λs=>Jj4 _];rfl
theorem Kg8(h1:1<=n)(hn:n<=4){P:Nat->Nat->Int}(hP:∀j,Jkj (P j)){m:Nat}(hm:m<=16){f:Nat->Int}(hf:Jmn m f){i j:Nat}(hij:i<j)(hj:j<m){T:Int}{c:Cli}(hc:Knows (J8n (P i) n) T (hG n r (λk=>J8n (P k) n) f i) c)(now:Int)(g:Nat->Bool)(q2:¬T<now - f i)(q3:¬now<f j):updS (sgB n r P f j g) now c=if ¬pwJ (pB P j) (List.range n)*2<pwJ (pB P j) ((List.range n).filter g)*3 then(9,c)else if j≠i+1/\¬pwJ (P i) (List.range n)*1<pwJ (P i) ((List.range n).filter g)*3 then(9,c)else(0,(K3m (c.1++[hG n r (λk=>J8n (P k) n) f j]),J8n (P j) n,T,false,())):=by
 obtain⟨c1,c2,c3,c4,c5,c6⟩:=hc;have fj:=hf.1 j hj;have hlt:=hf.lt hij hj;have e1:=Ke1 n r (λk=>J8n (P k) n) f j;have e2:=Ke1 n r (λk=>J8n (P k) n) f i;have ea:∀p,enS (J8n p n) (hG n r (λk=>J8n (P k) n) f j) (sgJ (hG n r (λk=>J8n (P k) n) f j) ((List.range n).filter g))=decide (pwJ p (List.range n)*2<pwJ p ((List.range n).filter g)*3):=λp=>by unfold enS;rw[Juy p hn _ (by omega) (by omega),Jtm]
 have es:∀p,soS (J8n p n) (hG n r (λk=>J8n (P k) n) f j) (sgJ (hG n r (λk=>J8n (P k) n) f j) ((List.range n).filter g))=decide (pwJ p (List.range n)*1<pwJ p ((List.range n).filter g)*3):=λp=>by unfold soS;rw[Juy p hn _ (by omega) (by omega),Jtm]
 unfold updS;rw[if_neg (by rw[c6];simp),K7i h1 hn hP (by omega) fj.1 (by omega) g,if_neg (by simp),c3,e2,hG_t,Jx2];show(if(hG n r (λk=>J8n (P k) n) f j).1<=_ then _ else if(hG n r (λk=>J8n (P k) n) f j).2.1<=_ then _ else _)=_;rw[e1,hG_t,oJ,oJ,c5,if_neg q2];show(if now<(hG n r (λk=>J8n (P k) n) f j).2.1 then _ else if(hG n r (λk=>J8n (P k) n) f j).1=_/\eqH (hG n r (λk=>J8n (P k) n) f j).2.2.2.1 _=false then _ else if enS (Jpd (λk=>J8n (P k) n) j) (hG n r (λk=>J8n (P k) n) f j) (sgJ (hG n r (λk=>J8n (P k) n) f j) ((List.range n).filter g))=false then _ else if(hG n r (λk=>J8n (P k) n) f j).1≠_/\soS c.2.1 (hG n r (λk=>J8n (P k) n) f j) (sgJ (hG n r (λk=>J8n (P k) n) f j) ((List.range n).filter g))=false then _ else(0,(K3m (c.1++[hG n r (λk=>J8n (P k) n) f j]),J8n (P j) n,T,c.2.2.2.1,())))=_;rw[hG_t,if_neg q3,K4i,e1,preR,ea,c4,es,c6];have hv:¬((j:Int)+1=(i:Int)+1+1/\eqH (setH (J8n (if j=0 then P 0 else P (j - 1)) n)) (setH (J8n (P i) n))=false):=by rintro⟨a,b⟩;rw[oJ,show j - 1=i from by omega,show eqH (setH (J8n (P i) n)) (setH (J8n (P i) n))=true from Jj4 _]at b;cases b
 rw[if_neg hv];show(if decide (pwJ (pB P j) (List.range n)*2<pwJ (pB P j) ((List.range n).filter g)*3)=false then _ else _)=_;grind
theorem Kbn(hn:n<=4){P:Nat->Nat->Int}(hP:∀j,Jkj (P j)){m:Nat}(hm:m<=16){f:Nat->Int}(hf:Jmn m f){i:Nat}(hi:i<m){T:Int}{c:Cli}(hc:Knows (J8n (P i) n) T (hG n r (λk=>J8n (P k) n) f i) c):K7u c:=by
 obtain⟨c1,c2,c3,c4,_,_⟩:=hc;have:=hf.1 i hi;refine⟨c1,by omega,by rw[c4];exact Jv9 (hP i) hn, ?_, ?_⟩;·rw[c3,Ke1];omega
 rw[c3,hG_t];omega
theorem Keh(h1:1<=n)(hn:n<=4){r:Nat->List UInt8}{P:Nat->Nat->Int}(hP:∀j,Jkj (P j)){m:Nat}(hm:m<=16){f:Nat->Int}(hf:Jmn m f){T:Int}(hT:0<=T/\T<=1073741824){j:Nat}(hj:j<m):J78 (hG n r (λk=>J8n (P k) n) f j) (J8n (P j) n) T=some (.inr (0,([hG n r (λk=>J8n (P k) n) f j],J8n (P j) n,T,false,()))):=by
 have hl:(J8n (P j) n).length=n:=by simp[J8n]
 have fj:=hf.1 j hj;rw[new_eq _ _ _ (Jom _ n) (by omega)];unfold newS;rw[if_pos ⟨Jm5 (by omega) fj.1 (by omega),Jg1 (hP j) h1 hn,by rw[Jx2];exact Jj4 _,hT.1,hT.2⟩]
theorem Kdy(n:Nat) r P f (j:Nat):genB n r (λk=>J8n (P k) n) f j=sgB n r P f j (λ_=>true):=by unfold genB sgB;rw[Jrt]
theorem Ka0(n:Nat)(h:n<=1000000000):J42 (n:Int)=some []:=by
 unfold J42;rw[oF,Int.sub_zero,oW];by_cases c:(0:Int)<(n:Int);·rw[J8y c,J8d ⟨rfl,rfl⟩,J8d (by rw[List.length_replicate];omega),oN];rfl
 rw[J93 c]
theorem Jqc(l:List (List Pr))(h:l.flatten.length<=1000000000)(hl:l.length<=1000000):J4 l=some l.flatten:=by
 have ht:∀i,((l.take i).flatten).length<=1000000000:=λi=>Nat.le_trans (Jej l i) h;have m1:J4_1 l 0 l (l.length:Int) 0=some (l,(l.flatten.length:Int)):=by
  unfold J4_1;have:=J8p (step:=λ(s:Int×Int)=>J4_1_step l s.1 l (l.length:Int) s.2) (λi (_:Unit)=>((((l.take i).flatten).length:Int),(i:Int))) (λ_ _=>()) (λ_=>(l,(l.flatten.length:Int))) l.length (λ_ _=>True) (λi w hi _=>⟨?_,trivial⟩) (λw _=> ?_) l.length 0 () (by omega) trivial;·exact this
  ·unfold J4_1_step;have e:=congrArg List.length (getD_take l hi);rw[List.length_append]at e;have b:=ht (i+1);rw[oT,oN,Int.toNat_natCast,oW,oF,oW];congr 3;omega
  unfold J4_1_step;rw[oF,List.take_of_length_le (Nat.le_refl _)]
 have m2:J4_2 l (l.length:Int) 0 []=some l.flatten:=by
  unfold J4_2;have:=J8p (step:=λ(s:Int×List Pr)=>J4_2_step l (l.length:Int) s.1 s.2) (λi (_:Unit)=>((i:Int),(l.take i).flatten)) (λ_ _=>()) (λ_=>l.flatten) l.length (λ_ _=>True) (λi w hi _=>⟨?_,trivial⟩) (λw _=> ?_) l.length 0 () (by omega) trivial;·exact this
  ·show J4_2_step l (l.length:Int) (i:Int) ((l.take i).flatten)=_;unfold J4_2_step;have e:=congrArg List.length (getD_take l hi);rw[List.length_append]at e;have b:=ht (i+1);rw[oT,oN,Int.toNat_natCast,oN,oW,getD_take l hi];rfl
  unfold J4_2_step;rw[oF,List.take_of_length_le (Nat.le_refl _)]
 unfold J4;rw[m1,J8a];simp only;rw[Ka0 _ h,J8a,m2,J8a]
abbrev Stt:=List Pr×Int×List (List Pr)×Unit
def Jxf(p:Pr):Bool:= !decide (p.1=[])&&(decide ((p.1.length:Int)<=16)&&decide ((p.2.1.length:Int)<=24))
theorem K52 p:J7t p=some (Jxf p):=by unfold J7t Jxf;cases decide (p.1=[])<;>cases decide ((p.1.length:Int)<=16)<;>rfl
def K5v(l:List Pr)(p:Pr):List Pr:=if Ji1 l p.1 then l.take (J8j l p.1)++p::l.drop (J8j l p.1+1)else l.take (J8j l p.1)++p::l.drop (J8j l p.1)
def K3n(l:List Pr)(k:List UInt8):List Pr:=if Ji1 l k then l.take (J8j l k)++l.drop (J8j l k+1)else l
def Jpe(l:List Pr)(p:Pr):List Pr×Bool:=if Jxf p&&(Ji1 l p.1||decide (l.length<30))then(K5v l p,true)else(l,false)
theorem Jeo(h:Ji1 l k=true):J8j l k<l.length/\(l.getD (J8j l k) zPr).1=k:=by unfold Ji1 at h;rw[decide_eq_true_eq]at h;exact h
theorem Jx8(l:List Pr)(hr:Jaz l)(hl:l.length<=1000) p:J6t l p=some (Jpe l p):=by
 have hb:=below_le l p.1;have c3:∀a b c:List Pr,J4 [a,b,c]=some (a++(b++(c++[])))\/1000000000<(a++(b++(c++[]))).length:=λa b c=>by
  by_cases q:([a,b,c]:List (List Pr)).flatten.length<=1000000000;·exact .inl (Jqc _ q (by simp))
  grind
 have c4:∀a c:List Pr,a.length<=1000->c.length<=1000->J4 [a,[p],c]=some (a++p::c):=λa c h1 h2=>by grind
 unfold J6t Jpe K5v;rw[Jju l hr hl,J8a,K52,J8a,oW];cases hm:Jxf p with
 |false=>rfl
 | true=>
  rw[Bool.not_true,J8t,Bool.true_and];cases ha:Ji1 l p.1 with
  |true=>have:=(Jeo ha).1;have e1:J9v l 0 (J8j l p.1:Int)=l.take (J8j l p.1):=(by rw[Jgr,Int.toNat_natCast]);have e2:J9v l ((J8j l p.1:Int)+1) (l.length:Int)=l.drop (J8j l p.1+1):=(by rw[Jbn];rfl);rw[Bool.not_true,J8t,Jbt,oN,oN,e1,e2,c4 _ _ (by rw[List.length_take];omega) (by rw[List.length_drop];omega),J8a,Bool.true_or,if_pos rfl,if_pos rfl]
  |false=>
   have e1:J9v l 0 (J8j l p.1:Int)=l.take (J8j l p.1):=(by rw[Jgr,Int.toNat_natCast]);have e2:J9v l (J8j l p.1:Int) (l.length:Int)=l.drop (J8j l p.1):=(by rw[Jbn,Int.toNat_natCast]);rw[Bool.not_false,Jbt,Bool.false_or];by_cases c:l.length<30;·rw[oF,J8t,oN,oN,e1,e2,c4 _ _ (by rw[List.length_take];omega) (by rw[List.length_drop];omega),J8a,decide_eq_true c,if_pos rfl,if_neg (by simp)]
   rw[oT,decide_eq_false c,if_neg (by simp)]
theorem Ke8(l:List Pr)(hr:Jaz l)(hl:l.length<=1000) k:J87 l k=some (K3n l k):=by unfold J87 K3n;have hb:=below_le l k;rw[Jju l hr hl,J8a,oW];cases ha:Ji1 l k with|false=>rfl|true=>have:=(Jeo ha).1;have e1:J9v l 0 (J8j l k:Int)=l.take (J8j l k):=(by rw[Jgr,Int.toNat_natCast]);have e2:J9v l ((J8j l k:Int)+1) (l.length:Int)=l.drop (J8j l k+1):=(by rw[Jbn];rfl);have hc:=Jqc [l.take (J8j l k),l.drop (J8j l k+1)] (by simp;omega) (by simp);have e3:([l.take (J8j l k),l.drop (J8j l k+1)]:List (List Pr)).flatten=l.take (J8j l k)++l.drop (J8j l k+1):=(by simp);rw[e3]at hc;rw[Bool.not_true,J8t,oN,oN,e1,e2,hc,J8a,if_pos rfl]
theorem Jq2(h:Jaz l)(n:Nat):Jaz (l.take n):=h.sublist (List.take_sublist n l)
theorem Jq1(h:Jaz l)(n:Nat):Jaz (l.drop n):=h.sublist (List.drop_sublist n l)
theorem Jnx{l:List Pr}{k:List UInt8}{p:Pr}(h:p∈l.take (J8j l k)):J91 p.1 k=true:=by obtain⟨i,hi,rfl⟩:=List.getElem_of_mem h;rw[List.length_take]at hi;have:=Jhi l k i (by omega);grind
theorem Jln{l:List Pr}{n:Nat}{p:Pr}(h:p∈l.drop n):∃i,n<=i/\i<l.length/\l.getD i zPr=p:=by obtain⟨i,hi,rfl⟩:=List.getElem_of_mem h;rw[List.length_drop]at hi;refine⟨n+i,by omega,by omega, ?_⟩;grind
theorem Jwk(hr:Jaz l){k:List UInt8}{n:Nat}(h:Ji1 l k=false/\n=J8j l k\/Ji1 l k=true/\n=J8j l k+1){p:Pr}(hp:p∈l.drop n):J91 k p.1=true:=by
 obtain⟨i,h1,h2,rfl⟩:=Jln hp;rcases h with⟨ha,rfl⟩|⟨ha,rfl⟩
 ·have b:J91 (l.getD i zPr).1 k=false:=by cases q:J91 (l.getD i zPr).1 k with|false=>rfl|true=>have:=(Jbj hr k h2).1 q;omega
  rcases Jk5 _ _ b with e|e;·exact absurd ((Jzh hr k).2 ⟨_,Ja7 h2,e⟩) (by rw[ha];simp)
  exact e
 have e:=(Jeo ha).2;have:=Jjh hr (i:=J8j l k) (by omega) h2;rw[e]at this;exact this
theorem K5w{l:List Pr}(hr:Jaz l)(p:Pr):Jaz (K5v l p):=by
 have key:∀n,(Ji1 l p.1=false/\n=J8j l p.1\/Ji1 l p.1=true/\n=J8j l p.1+1)->Jaz (l.take (J8j l p.1)++p::l.drop n):=λn hn=>by
  refine List.pairwise_append.2 ⟨Jq2 hr _,List.pairwise_cons.2 ⟨λq hq=>Jwk hr hn hq,Jq1 hr _⟩,λa ha b hb=> ?_⟩;have h1:=Jnx ha;rcases List.mem_cons.1 hb with rfl|hb;·exact h1
  exact Jau _ _ _ h1 (Jwk hr hn hb)
 unfold K5v;grind
theorem K3o{l:List Pr}(hr:Jaz l)(k:List UInt8):Jaz (K3n l k):=by unfold K3n;cases ha:Ji1 l k with|false=>rw[if_neg (by simp)];exact hr|true=>refine List.pairwise_append.2 ⟨Jq2 hr _,Jq1 hr _,λa ha2 b hb=> ?_⟩;exact Jau _ _ _ (Jnx ha2) (Jwk hr (.inr ⟨ha,rfl⟩) hb)
theorem Ke(l:List Pr)(p:Pr):(K5v l p).length=if Ji1 l p.1 then l.length else l.length+1:=by unfold K5v;cases ha:Ji1 l p.1 with|true=>have:=(Jeo ha).1;grind|false=>rw[if_neg (by simp),if_neg (by simp),List.length_append,List.length_cons,List.length_take,List.length_drop];omega
theorem Jyt(l:List Pr) k:(K3n l k).length<=l.length:=by
 unfold K3n;split;·rw[List.length_append,List.length_take,List.length_drop];omega
 exact Nat.le_refl _
theorem K6n(hr:Jaz l) p:Jaz (Jpe l p).1:=by
 unfold Jpe;split;·exact K5w hr p
 exact hr
theorem Kav(hl:l.length<=30) p:(Jpe l p).1.length<=30:=by
 unfold Jpe;split;·rw[Ke];grind
 exact hl
theorem Ka5(h:q∈K5v l p):q=p\/q∈l:=by unfold K5v at h;grind
theorem K8l(h:q∈K3n l k):q∈l:=by
 unfold K3n at h;split at h
 ·rcases List.mem_append.1 h with h|h;·exact List.mem_of_mem_take h
  exact List.mem_of_mem_drop h
 exact h
def Jel(l:List Pr):Prop:=Jaz l/\l.length<=30/\∀p∈l,p.1.length<=16/\p.2.1.length<=24
theorem Jjz:Jel []:=⟨List.Pairwise.nil,by simp,by simp⟩
theorem Ky(h:Jel l) p:Jel (Jpe l p).1:=by
 refine⟨K6n h.1 p,Kav h.2.1 p,λq hq=> ?_⟩;unfold Jpe at hq;split at hq
 ·rename_i c;rw[Bool.and_eq_true]at c;have hm:=c.1;unfold Jxf at hm;simp at hm;rcases Ka5 hq with rfl|hq;·omega
  exact h.2.2 q hq
 exact h.2.2 q hq
theorem K8m(h:Jel l) k:Jel (K3n l k):=⟨K3o h.1 k,by have:=Jyt l k;have:=h.2.1;omega,λq hq=>h.2.2 q (K8l hq)⟩
def Jmo(s:Stt):Prop:=Jel s.1/\0<=s.2.1/\s.2.1<=16/\(s.2.2.1.length:Int)=min s.2.1 6/\∀l∈s.2.2.1,Jel l
theorem K73:Jmo ([],0,[],()):=⟨Jjz,by decide,by decide,by decide,by simp⟩
theorem K06(s:Stt)(h:Jmo s) p:J1h p s=some ((Jpe s.1 p).2,((Jpe s.1 p).1,s.2.1,s.2.2.1,())):=by have:=h.1.2.1;unfold J1h;rw[Jx8 _ h.1.1 (by omega),J8a]
theorem Kcj(h:Jmo s) p:Jmo ((Jpe s.1 p).1,s.2.1,s.2.2.1,()):=⟨Ky h.1 p,h.2⟩
theorem Kb1(s:Stt)(h:Jmo s) k:J5m k s=some (K3n s.1 k,s.2.1,s.2.2.1,()):=by have:=h.1.2.1;unfold J5m;rw[Ke8 _ h.1.1 (by omega),J8a]
theorem st_del(h:Jmo s) k:Jmo (K3n s.1 k,s.2.1,s.2.2.1,()):=⟨K8m h.1 k,h.2⟩
def Juh(k:List (List Pr))(l:List Pr):List (List Pr):=if 6<k.length+1 then(k++[l]).drop 1 else k++[l]
def Jih(s:Stt):Int×Stt:=if s.2.1=16 then(0,s)else(s.2.1+1,(s.1,s.2.1+1,Juh s.2.2.1 s.1,()))
theorem Jk9(s:Stt)(h:s.1.length<=2147483648):J2u s=some s.1:=by unfold J2u Jj;rw[J8d h,J8a]
theorem Jix s (h:Jmo s):J3f s=some (Jih s):=by
 obtain⟨⟨h1,h2,_⟩,h3,h4,h5,h6⟩:=h;unfold J3f Jih Juh;by_cases c:s.2.1=16;·rw[J8y c,if_pos c]
 have e:J4q s.2.2.1=some s.2.2.1:=by unfold J4q;rw[oN]
 rw[J93 c,if_neg c,e,J8a,oW,Jk9 _ (by show s.1.length<=_;omega),J8a,J8d (by simp;omega)];have hl:(s.2.2.1++[s.1]).length=s.2.2.1.length+1:=by rw[List.length_append];rfl
 rw[hl];by_cases q:6<s.2.2.1.length+1;·rw[oT,oN,if_pos q,<-hl,Jbn];rfl
 rw[oF,if_neg q]
theorem K4q(k:List (List Pr)) l (h:k.length<=6):(Juh k l).length=min (k.length+1) 6:=by unfold Juh;grind
theorem K4r(h:x∈Juh k l):x∈k\/x=l:=by unfold Juh at h;grind
theorem Jov(h:Jmo s):Jmo (Jih s).2:=by
 obtain⟨h1,h3,h4,h5,h6⟩:=h;unfold Jih;by_cases c:s.2.1=16;·rw[if_pos c];exact⟨h1,h3,h4,h5,h6⟩
 rw[if_neg c];refine⟨h1,by show 0<=s.2.1+1;omega,by show s.2.1+1<=16;omega, ?_,λl hl=> ?_⟩;·show((Juh s.2.2.1 s.1).length:Int)=min (s.2.1+1) 6;rw[K4q _ _ (by omega)];omega
 rcases K4r hl with hl|rfl;·exact h6 l hl
 exact h1
def Kc0(s:Stt):Int:=s.2.1 - (s.2.2.1.length:Int)+1
def atS(s:Stt)(n:Int):List Pr×Bool:=if n<Kc0 s\/s.2.1<n then([],false)else(s.2.2.1.getD (n - Kc0 s).toNat [],true)
theorem low_eq s (h:Jmo s):J3g s=some (Kc0 s):=by obtain⟨h1,h3,h4,h5,h6⟩:=h;unfold J3g Kc0;rw[oX (s.2.1 - _),oW]
theorem Jub{k:List (List Pr)}(h:∀l∈k,Jel l)(i:Nat):Jel (k.getD i []):=by
 by_cases c:i<k.length;·exact h _ (Ja7 c)
 rw[List.getD_eq_getElem?_getD,List.getElem?_eq_none (by omega)];exact Jjz
theorem K71(s:Stt)(h:Jmo s)(n:Int):J5r n s=some (atS s n):=by
 have hlow:=low_eq s h;obtain⟨h1,h3,h4,h5,h6⟩:=h;have hl:Kc0 s=s.2.1 - (s.2.2.1.length:Int)+1:=rfl;unfold J5r atS;rw[hlow,J8a];by_cases c1:n<Kc0 s;·rw[J8y c1,if_pos (.inl c1)]
 rw[J93 c1];by_cases c2:s.2.1<n;·rw[J8y c2,if_pos (.inr c2)]
 have:=(Jub h6 (n - Kc0 s).toNat).2.1;rw[J93 c2,oJ,J8a,oW,oN];unfold Jj;rw[oN,J8a]
theorem Jnn:∀{a b:List Pr},Jaz a->Jaz b->(∀q,q∈a↔q∈b)->a=b
 |[],[],_,_,_=>rfl
 |[],y::b,_,_,h=>by cases (h y).2 List.mem_cons_self
 |x::a,[],_,_,h=>by cases (h x).1 List.mem_cons_self
 | x::a,y::b,ha,hb,h=>by
  obtain⟨a1,a2⟩:=List.pairwise_cons.1 ha;obtain⟨b1,b2⟩:=List.pairwise_cons.1 hb;have e:x=y:=by
   rcases List.mem_cons.1 ((h x).1 List.mem_cons_self)with e|e;·exact e
   rcases List.mem_cons.1 ((h y).2 List.mem_cons_self)with e2|e2;·exact e2.symm
   have:=Jau _ _ _ (b1 x e) (a1 y e2);rw[Je2]at this;cases this
  subst e;congr 1;refine Jnn a2 b2 λq=>⟨λhq=> ?_,λhq=> ?_⟩
  ·rcases List.mem_cons.1 ((h q).1 (List.mem_cons_of_mem _ hq))with e|e;·have:=a1 q hq;rw[e,Je2]at this;cases this
   exact e
  rcases List.mem_cons.1 ((h q).2 (List.mem_cons_of_mem _ hq))with e|e;·have:=b1 q hq;rw[e,Je2]at this;cases this
  exact e
theorem Jxz(h:Jel l):Jyh l:=⟨by have:=h.2.1;omega,λp hp=>by have:=h.2.2 p hp;omega⟩
def Jpg(n:Nat)(r:List UInt8):List UInt8:=sha (83::(Jep (n:Int)++r))
noncomputable def Jcl(l:List Pr):List UInt8:=Jpg l.length (Jbv (J98 l))
theorem K6y x0 x1 (x2:Int) (x3:Int) x4 x5:J2q_1_step x0 x1 x2 x3 x4 x5=(J8b (decide (x3<x2)) (need (0<=x3/\x3<(List.length x1:Int)) (J89 (J6s (List.getD x1 (Int.toNat x3) zPr)) (λu4=>need (List.length x5+List.length ([u4]:List (List UInt8))<=2147483648) (some (.inl ((w64 (x3+(1:Int))),(x5++([u4]:List (List UInt8))))))))) (some (.inr (x0,x4,x5))):Option ((Int×List (List UInt8))⊕((List Pr)×List UInt8×List (List UInt8)))):=rfl
theorem Jka l (h:Jyh l):J2q l=some (Jcl l):=by
 have hl:=h.1;have m1:J2q_1 l l (l.length:Int) 0 (List.replicate 32 0) []=some (l,List.replicate 32 0,J98 l):=by
  have:=J8p (step:=λ(s:Int×List (List UInt8))=>J2q_1_step l l (l.length:Int) s.1 (List.replicate 32 0) s.2) (λi (_:Unit)=>((i:Int),J98 (l.take i))) (λ_ _=>()) (λ_=>(l,List.replicate 32 0,J98 l)) l.length (λ_ _=>True) (λi w hi _=>⟨?_,trivial⟩) (λw _=> ?_) l.length 0 () (by omega) trivial;·exact this
  ·rw[K6y,oT,oN,Int.toNat_natCast,Jxb _ (h.2 _ (Ja7 hi)),J8a,J8d (by rw[J9i];simp;omega),Jh1 l hi,oW];rfl
  rw[K6y,oF,List.take_of_length_le (Nat.le_refl _)]
 have hp:Jd9 [(l.length:Int)]=Jep l.length:=by simp[Jd9]
 have h1:=J9k (l.length:Int);have h2:=Jax (J98 l);have hf:[Jep (l.length:Int),Jbv (J98 l)].flatten=Jep (l.length:Int)++Jbv (J98 l):=by simp
 unfold J2q;rw[m1,J8a];rw[Jsk _ (by rw[J9i];omega) (Jdd h),J8a,put_eq _ (by simp),J8a,hp,Jay _ _ (by rw[hf,List.length_append];omega) (by simp),hf];rfl
theorem K62(n:Nat)(r:List UInt8)(hr:r.length=32):J2h (n:Int) r=some (Jpg n r):=by
 have h1:=J9k (n:Int);have hf:[Jep (n:Int),r].flatten=Jep (n:Int)++r:=by simp
 unfold J2h;rw[Jer,J8a,J9x _ _ (by rw[hf,List.length_append];omega) (by simp),hf];rfl
def Jip(l:List α):List α:=l.drop (l.length - 6)
theorem Jji(l:List α):(Jip l).length=min l.length 6:=by unfold Jip;rw[List.length_drop];omega
theorem Jq4(l:List α)(x:α):Jip (l++[x])=if 6<(Jip l).length+1 then(Jip l++[x]).drop 1 else Jip l++[x]:=by
 rw[Jji];unfold Jip;rw[List.length_append,List.length_singleton];split;·rw[List.drop_append_of_le_length (by omega),List.drop_append_of_le_length (by rw[List.length_drop];omega),List.drop_drop];congr 2;omega
 grind
noncomputable def rR(R:List (List Pr))(j:Nat):List UInt8:=Jcl (R.getD j [])
theorem K5y R (j:Nat):(rR R j).length=32:=J9z _
theorem K5z(R:List (List Pr)) l (h:j<R.length):rR (R++[l]) j=rR R j:=by unfold rR;rw[List.getD_eq_getElem?_getD,List.getD_eq_getElem?_getD,List.getElem?_append_left h]
theorem Kex(R:List (List Pr)) l:rR (R++[l]) R.length=Jcl l:=by unfold rR;simp
section
variable (n : Nat) (p : Nat → Int) (f : Nat → Int)
noncomputable def BL(R:List (List Pr)):List Block:=blG n (rR R) (λ_=>J8n p n) f R.length
noncomputable def hL(R:List (List Pr))(j:Nat):Hdr:=hG n (rR R) (λ_=>J8n p n) f j
noncomputable def gL(R:List (List Pr))(j:Nat):Block:=genB n (rR R) (λ_=>J8n p n) f j
theorem Jyg(R:List (List Pr)):(BL n p f R).length=R.length:=Jfk _ _ _ _ _
theorem BL_cg(R:List (List Pr)) l (h:k<=R.length):blG n (rR (R++[l])) (λ_=>J8n p n) f k=blG n (rR R) (λ_=>J8n p n) f k:=Jtp n k λj hj=>⟨K5z R l (by omega),rfl,rfl⟩
theorem Kcv(R:List (List Pr)) l:BL n p f (R++[l])=BL n p f R++[blkR n (Jcl l) (J8n p n) (BL n p f R) (f R.length)]:=by unfold BL;rw[List.length_append];show blG n (rR (R++[l])) _ f R.length++[_]=_;rw[BL_cg n p f R l (Nat.le_refl _),Kex]
theorem Ke3(R:List (List Pr)) l (h:j<R.length):hL n p f (R++[l]) j=hL n p f R j:=by unfold hL hG;rw[BL_cg n p f R l (by omega),K5z R l h]
theorem Kcu(R:List (List Pr))(h:j<R.length):(BL n p f R).getD j Jw0=gL n p f R j:=K35 _ _ _ _ h
end
theorem Jdm(n:Nat):(J8o n).length=n:=Jb1 _ _
theorem Jhu(n:Nat):(J8r n).length=n:=Jb1 _ _
theorem Jbl p (n:Nat):(J8n p n).length=n:=Jb1 _ _
theorem Jsv(h:Hdr)(hh:Jaw h)(h1:1<=h.1)(h2:h.1<=16) nm (i:Nat):J7r (Jbu (Jcf i)) h nm (Jcf i)=some (sgS h nm (Jcf i)):=by unfold J7r;rw[K7a h hh,J8a,By_eq _ (by rw[Jb4];omega) (Jfs _) _ _ (Jhb i) _ h1 h2 (by rw[Jkb];omega)];rfl
theorem Jkn p (hn:n<=4):J8 (J8n p n)=some (J8n p n):=Jj8 _ (by rw[Jbl];omega)
theorem K3f(l:List Block)(h:l.length<=1000):J27 l=some l:=by unfold J27;rw[oN]
theorem K9c p (hp:Jkj p) {n:Nat} (h1:1<=n) (hn:n<=4):J4f (J8n p n) (J8o n)=some ((),J8o n,J8r n,J8n p n,([],0,[],()),([]:List Block)):=by
 have e1:=Jg1 hp h1 hn;have e2:J4f_1 (J8o n) (n:Int) 0 () (J8o n) [] (J8n p n) ([],0,[],())=some ((),J8o n,J8r n,J8n p n,([],0,[],())):=by
  have:=J8p (step:=λ(s:Int×List (List (List UInt8)))=>J4f_1_step (J8o n) (n:Int) s.1 () (J8o n) s.2 (J8n p n) ([],0,[],())) (λi (_:Unit)=>((i:Int),J8r i)) (λ_ _=>()) (λ_=>((),J8o n,J8r n,J8n p n,([],0,[],()))) n (λ_ _=>True) (λi w hi _=>⟨by
   unfold J4f_1_step;have g1:(J8o n).getD i (List.replicate 32 (0:UInt8))=Jcf i:=Ja8 _ _ hi;rw[oT,J8d (by rw[Jdm];omega),Int.toNat_natCast,g1,Kcy _ (Jhb i),J8a,J8d (by rw[Jhu,List.length_singleton];omega),oW];rw[show J8r (i+1)=J8r i++[Jbu (Jcf i)]from Jm8 _ _];rfl,trivial⟩) (λw _=>by
   unfold J4f_1_step;rw[oF]) n 0 () (by omega) trivial
  exact this
 unfold J4f;rw[right_eq _ (by rw[Jbl];omega),J8a,e1,Jbl,Jdm];rw[show(!true)=false from rfl,J8t,Jd2 rfl];rw[show J51 (J8o n)=some (J8o n)from by unfold J51;rw[J8d (by rw[Jdm];omega)],J8a,Jkn p hn,J8a];show J89 (J4f_1 (J8o n) (n:Int) 0 () (J8o n) [] (J8n p n) ([],0,[],())) _=_;rw[e2];rfl
theorem hcA(n:Nat)(hn:n<=4) p (h:Hdr) (hh:Jaw h) (h1:1<=h.1) (h2:h.1<=16) st B g a b:J9_2 (n:Int) 0 () (J8o n) (J8r n) (J8n p n) st B h g () [] a b=some ((),J8o n,J8r n,J8n p n,st,B,g,(),sgJ h (List.range n),a,b):=by
 have:=J8p (step:=λ(s:Int×List J9o)=>J9_2_step (n:Int) s.1 () (J8o n) (J8r n) (J8n p n) st B h g () s.2 a b) (λi (_:Unit)=>((i:Int),sgJ h (List.range i))) (λ_ _=>()) (λ_=>((),J8o n,J8r n,J8n p n,st,B,g,(),sgJ h (List.range n),a,b)) n (λ_ _=>True) (λi w hi _=>⟨by
  unfold J9_2_step;have g1:(J8o n).getD i (List.replicate 32 (0:UInt8))=Jcf i:=Ja8 _ _ hi;have g2:(J8r n).getD i []=Jbu (Jcf i):=Ja8 _ _ hi;have g3:((J8n p n).getD i Jc1).1=nm i:=(by rw[show(J8n p n).getD i Jc1=Jjl p i from Ja8 _ _ hi];rfl);rw[oT,J8d (by rw[Jbl];omega),J8d (by rw[Jhu];omega),J8d (by rw[Jdm];omega),Int.toNat_natCast,g1,g2];rw[show((([]:List UInt8),(0:Int),(List.replicate 32 (0:UInt8)),()):Val)=Jc1 from rfl,g3,Jsv h hh h1 h2,J8a,J8d (by rw[Jhc,List.length_range];simp;omega),oX ((i:Int)+1),Jmg];rfl,trivial⟩) (λw _=>by
  unfold J9_2_step;rw[oF]) n 0 () (by omega) trivial
 exact this
theorem hcB(n:Nat)(hn:n<=4) p (h:Hdr) (hh:Jaw h) (h1:1<=h.1) (h2:h.1<=16) st B g a b:J9_1 (J8n p n) (n:Int) 0 () (J8o n) (J8r n) (J8n p n) st B h g () [] a b=some ((),J8o n,J8r n,J8n p n,st,B,g,(),sgJ h (List.range n),a,b):=by
 have:=J8p (step:=λ(s:Int×List J9o)=>J9_1_step (J8n p n) (n:Int) s.1 () (J8o n) (J8r n) (J8n p n) st B h g () s.2 a b) (λi (_:Unit)=>((i:Int),sgJ h (List.range i))) (λ_ _=>()) (λ_=>((),J8o n,J8r n,J8n p n,st,B,g,(),sgJ h (List.range n),a,b)) n (λ_ _=>True) (λi w hi _=>⟨by
  unfold J9_1_step;have g1:(J8o n).getD i (List.replicate 32 (0:UInt8))=Jcf i:=Ja8 _ _ hi;have g2:(J8r n).getD i []=Jbu (Jcf i):=Ja8 _ _ hi;have g3:((J8n p n).getD i Jc1).1=nm i:=(by rw[show(J8n p n).getD i Jc1=Jjl p i from Ja8 _ _ hi];rfl);rw[oT,J8d (by rw[Jbl];omega),J8d (by rw[Jhu];omega),J8d (by rw[Jdm];omega),Int.toNat_natCast,g1,g2];rw[show((([]:List UInt8),(0:Int),(List.replicate 32 (0:UInt8)),()):Val)=Jc1 from rfl,g3,Jsv h hh h1 h2,J8a,J8d (by rw[Jhc,List.length_range];simp;omega),oX ((i:Int)+1),Jmg];rfl,trivial⟩) (λw _=>by
  unfold J9_1_step;rw[oF]) n 0 () (by omega) trivial
 exact this
def stR(now:List Pr)(R:List (List Pr)):Stt:=(now,(R.length:Int),Jip R,())
theorem K4v(h:x∈Jip l):x∈l:=List.mem_of_mem_drop h
theorem K72(hn:Jel now)(hR:∀l∈R,Jel l)(hl:R.length<=16):Jmo (stR now R):=by refine⟨hn,by show 0<=(R.length:Int);omega,by show(R.length:Int)<=16;omega, ?_,λl hl=>hR l (K4v hl)⟩;show((Jip R).length:Int)=min (R.length:Int) 6;rw[Jji];omega
theorem K28(hl:R.length<16):Jih (stR now R)=((R.length:Int)+1,stR now (R++[now])):=by unfold Jih;rw[if_neg (show ¬(stR now R).2.1=16 by show ¬(R.length:Int)=16;omega)];unfold stR Juh;rw[Jq4,List.length_append];rfl
theorem stR_at(h:Int):atS (stR now R) h=if 1<=h/\(R.length:Int) - 6<h/\h<=(R.length:Int)then(R.getD (h - 1).toNat [],true)else([],false):=by
 have hk:=Jji R;have hlow:Kc0 (stR now R)=(R.length:Int) - ((Jip R).length:Int)+1:=rfl;unfold atS;rw[hlow,show(stR now R).2.1=(R.length:Int)from rfl,hk];by_cases c:1<=h/\(R.length:Int) - 6<h/\h<=(R.length:Int);·rw[if_pos c,oJ];congr 1;show(Jip R).getD _ []=_;unfold Jip;rw[List.getD_eq_getElem?_getD,List.getElem?_drop];congr 2;omega
 rw[if_neg c,oI]
section
variable {n : Nat} {p : Nat → Int} {f : Nat → Int}
theorem Kdg(hp:Jkj p)(h1:1<=n)(hn:n<=4)(hf:0<=f 0/\f 0<=1000000000):J9 (f 0) () (J8o n) (J8r n) (J8n p n) ([],0,[],()) []=some (1,(),J8o n,J8r n,J8n p n,stR [] [[]],BL n p f [[]]):=by
 have hsm:=Jmc p n hn;have e0:Jap ((1:Int),f 0,Jcl [],List.replicate 32 (0:UInt8),setH (J8n p n),List.replicate 32 (0:UInt8),())=true:=by rw[Jb5];show((1:Int)<=1/\(1:Int)<=16)/\0<=f 0/\f 0<=1073741824;omega
 have hh:Jaw ((1:Int),f 0,Jcl [],setH (J8n p n),setH (J8n p n),List.replicate 32 (0:UInt8),()):=⟨J9z _,Jal _,Jal _,by simp⟩;unfold J9;rw[Jk9 _ (by simp),J8a,Jka [] ⟨by simp,by simp⟩,J8a,Jb7 _ hsm,J8a,Jf9,J8a,show w64 ((([]:List Block).length:Int)+1)=1 from rfl,e0];rw[show(!true)=false from rfl,J8t,J8a,Jkn p hn,J8a,J8a,Jbl];rw[hcA n hn p _ hh (Int.le_refl 1) (show(1:Int)<=16 by omega),J8a,K3f [] (by simp),J8a,Jix _ K73,J8a];rfl
theorem Kdh(hp:Jkj p)(h1:1<=n)(hn:n<=4)(hR:1<=R.length/\R.length<16)(hrows:∀l∈R,Jel l)(hnow:Jel now)(hf:∀j,j<=R.length->0<=f j/\f j<=1000000000)(hlt:f (R.length - 1)<f R.length):J9 (f R.length) () (J8o n) (J8r n) (J8n p n) (stR now R) (BL n p f R)=some ((R.length:Int)+1,(),J8o n,J8r n,J8n p n,stR now (R++[now]),BL n p f (R++[now])):=by
 obtain⟨k,hk⟩:∃k,R.length=k+1:=⟨R.length - 1,by omega⟩;have hsm:=Jmc p n hn;have hkv:=Jxz hnow;have hlen:=Jyg n p f R;have hs:=K72 hnow hrows (by omega);have hfk:=hf (k+1) (by omega);have hlast:lastB (BL n p f R)=gL n p f R k:=by unfold BL gL;rw[hk];exact K9m _ _ _ _ _
 have e0:Jap (((k+2:Nat):Int),f (k+1),Jcl now,List.replicate 32 (0:UInt8),setH (J8n p n),List.replicate 32 (0:UInt8),())=true:=by rw[Jb5];show((1:Int)<=((k+2:Nat):Int)/\((k+2:Nat):Int)<=16)/\0<=f (k+1)/\f (k+1)<=1073741824;omega
 have e1:w64 (((k+1:Nat):Int)+1)=((k+2:Nat):Int):=by rw[oW];omega
 have e2:w64 (((k+1:Nat):Int) - 1)=((k:Nat):Int):=by rw[oW];omega
 have e3:(BL n p f R).getD k Jw0=gL n p f R k:=Kcu n p f R (by omega);have hg:Jaw (hL n p f R k):=Jnd n _ f (K5y R k);have hh:Jaw (((k+2:Nat):Int),f (k+1),Jcl now,setH (J8n p n),setH (J8n p n),sha (72::Jex (hL n p f R k)),()):=⟨J9z _,Jal _,Jal _,J9z _⟩;have e5:Jex (hL n p f R k)=Jgo (hL n p f R k):=by unfold Jex hL;rw[Jm5 (by omega) (hf k (by omega)).1 (by have:=(hf k (by omega)).2;omega),if_pos rfl]
 have ht:(hL n p f R k).2.1=f k:=hG_t _ _ _ _ _;rw[hk]at hlt⊢;unfold J9;rw[Jk9 _ (by show now.length<=_;have:=hkv.1;omega),J8a];show J89 (J2q now) _=_;rw[Jka _ hkv,J8a,Jb7 _ hsm,J8a,Jf9,J8a,hlen,hk,e1,e0];rw[show(!true)=false from rfl,J8t,oT,e2,J8d ⟨by omega,by omega⟩,show(Int.toNat ((k:Nat):Int))=k from rfl];rw[show((((0:Int),(0:Int),(List.replicate 32 (0:UInt8)),(List.replicate 32 (0:UInt8)),(List.replicate 32 (0:UInt8)),(List.replicate 32 (0:UInt8)),()),([]:List J9o),([]:List Val),([]:List Val),()):Block)=Jw0 from rfl,e3];rw[show(gL n p f R k).1=hL n p f R k from rfl,show(gL n p f R k).2.2.2.1=J8n p n from rfl,ht,J93 (by simp only[Nat.add_sub_cancel]at hlt;omega)];rw[Jin _ hg,J8a,Jb7 _ hsm,J8a,Jkn p hn,J8a,J8a,Jbl];rw[hcB n hn p _ hh (show(1:Int)<=((k+2:Nat):Int)by omega) (show((k+2:Nat):Int)<=16 by omega),J8a,K3f _ (by rw[hlen];omega),J8a,J8d (by rw[hlen];simp;omega),Jix _ hs,J8a,e5,K28 (by omega),hk];rw[Kcv];unfold blkR hdR Kek;rw[hlen,oJ,oJ,hlast,hk];rfl
theorem Kbl(hn:n<=4)(hR:R.length<=16){j:Nat}(hj:j<R.length) st:J2p ((j:Int)+1) () (J8o n) (J8r n) (J8n p n) st (BL n p f R)=some (gL n p f R j,true):=by
 have hlen:=Jyg n p f R;have e2:w64 ((j:Int)+1 - 1)=(j:Int):=by rw[oW];omega
 have hpre:Jpd (λ_=>J8n p n) j=J8n p n:=by unfold Jpd;split<;>rfl
 unfold J2p;rw[hlen,oF,oF,e2,J8d ⟨by omega,by omega⟩,show Int.toNat (j:Int)=j from rfl];rw[show((((0:Int),(0:Int),(List.replicate 32 (0:UInt8)),(List.replicate 32 (0:UInt8)),(List.replicate 32 (0:UInt8)),(List.replicate 32 (0:UInt8)),()),([]:List J9o),([]:List Val),([]:List Val),()):Block)=Jw0 from rfl,Kcu n p f R hj];rw[show(gL n p f R j).2.1=sgJ (hL n p f R j) (List.range n)from rfl,show(gL n p f R j).2.2.1=J8n p n from hpre,show(gL n p f R j).2.2.2.1=J8n p n from rfl];rw[show J31 (sgJ (hL n p f R j) (List.range n))=some (sgJ (hL n p f R j) (List.range n))from by unfold J31;rw[J8d (by rw[Jhc,List.length_range];omega)],Jkn p hn];show some ((hL n p f R j,sgJ (hL n p f R j) (List.range n),J8n p n,J8n p n,()),true)=some ((hL n p f R j,sgJ (hL n p f R j) (List.range n),Jpd (λ_=>J8n p n) j,J8n p n,()),true);rw[hpre]
end
def Jem(l:List Int):Prop:=l.Pairwise (· <= ·)
theorem Jni(x:Int):∀l:List Int,(insI x l).Perm (x::l)
 |[]=>List.Perm.refl _
 |y::r=>by
  unfold insI;split;·exact List.Perm.refl _
  exact((Jni x r).cons y).trans (List.Perm.swap x y r)
theorem Jnj(x:Int):∀{l:List Int},Jem l->Jem (insI x l)
 |[],_=>List.pairwise_singleton _ _
 |y::r,h=>by
  unfold insI;obtain⟨h1,h2⟩:=List.pairwise_cons.1 h;split;·rename_i hxy;exact List.pairwise_cons.2 ⟨λz hz=>by rcases List.mem_cons.1 hz with rfl|hz;exact hxy;have:=h1 z hz;omega,h⟩
  refine List.pairwise_cons.2 ⟨λz hz=> ?_,Jnj x h2⟩;rcases List.mem_cons.1 ((Jni x r).mem_iff.1 hz)with rfl|hz;·omega
  exact h1 z hz
theorem Jfe:∀l:List Int,(Jy6 l).Perm l
 |[]=>List.Perm.refl _
 |x::r=>(Jni x _).trans ((Jfe r).cons x)
theorem Je6:∀l:List Int,Jem (Jy6 l)
 |[]=>List.Pairwise.nil
 |x::r=>Jnj x (Je6 r)
theorem Jiu(ha:Jem a)(hb:Jem b)(h:a.Perm b):a=b:=List.Perm.eq_of_pairwise (λx y _ _ h1 h2=>by omega) ha hb h
theorem Kfx(h:a.Perm b):Jy6 a=Jy6 b:=Jiu (Je6 a) (Je6 b) ((Jfe a).trans (h.trans (Jfe b).symm))
def K1e:List Int->Int->List Int->List Int
 |[],x,B=>x::B
 |y::A,x,B=>if x<y then K1e A x (y::B)else(y::A).reverse++x::B
theorem Jzg:∀(A:List Int) (x:Int) (B:List Int),(K1e A x B).length=A.length+B.length+1
 |[],x,B=>by simp[K1e]
 |y::A,x,B=>by
  unfold K1e;split;·rw[Jzg];simp;omega
  simp;omega
theorem Jug:∀(A:List Int) (x:Int) (B:List Int),(K1e A x B).Perm (A.reverse++x::B)
 |[],x,B=>List.Perm.refl _
 |y::A,x,B=>by
  unfold K1e;split;·refine(Jug A x (y::B)).trans ?_;grind
  exact List.Perm.refl _
theorem Jnk:∀{A:List Int} {x:Int} {B:List Int},Jem (A.reverse++B)->(∀b∈B,x<=b)->Jem (K1e A x B)
 |[],x,B,h,hb=>List.pairwise_cons.2 ⟨hb,h⟩
 |y::A,x,B,h,hb=>by
  unfold K1e;split;·refine Jnk (by rw[List.reverse_cons,List.append_assoc]at h;exact h) λb hb'=> ?_;grind
  obtain⟨h1,h2,h3⟩:=List.pairwise_append.1 h;refine List.pairwise_append.2 ⟨h1,List.pairwise_cons.2 ⟨hb,h2⟩,λa ha b hb'=> ?_⟩;grind
theorem Kec a b:J73 a b=some (decide (a<b)):=by unfold J73 J6l;rw[J8a,show(!decide (a=a))=false from by simp,J8t]
theorem K4l b i (C:List Int):∀(A:List Int) (x:Int) (B:List Int),A.length+B.length+C.length<=1000->
  J2_1 0 b i (A.length:Int) (A.reverse++x::(B++C))=some (0,b,i,K1e A x B++C)
 |[],x,B,hl=>by unfold J2_1;refine J96 ?_;show J2_1_step 0 b i 0 (x::(B++C))=_;unfold J2_1_step;rw[oF];rfl
 | y::A,x,B,hl=>by
  simp only[List.length_cons]at hl;have hd:(y::A).reverse++x::(B++C)=A.reverse++y::x::(B++C):=(by simp);have hlen:(A.reverse++y::x::(B++C)).length=A.length+2+B.length+C.length:=(by simp;omega);have hn:(((y::A).length:Nat):Int)=(A.length:Int)+1:=(by simp);have w1:w64 ((A.length:Int)+1 - 1)=(A.length:Int):=(by rw[oW];omega);have g1:(A.reverse++y::x::(B++C)).getD (A.length+1) 0=x:=(by grind);have g2:(A.reverse++y::x::(B++C)).getD A.length 0=y:=(by simp);have tn:Int.toNat ((A.length:Int)+1)=A.length+1:=(by omega);have st:J2_1_step 0 b i ((A.length:Int)+1) (A.reverse++y::x::(B++C))=if x<y then some (.inl ((A.length:Int),A.reverse++x::y::(B++C)))else some (.inr (0,b,i,A.reverse++y::x::(B++C))):=by
   unfold J2_1_step;rw[oT,J8d (by rw[hlen];omega),w1,J8d (by rw[hlen];omega),tn,Int.toNat_natCast,g1,g2,Kec,J8a];by_cases c:x<y;·rw[J8y c,if_pos c,J8d (by rw[List.length_set,hlen];omega)];congr 3;rw[List.set_append_right _ _ (by simp),List.length_reverse,show A.length+1 - A.length=1 from by omega];rw[show(y::x::(B++C)).set 1 y=y::y::(B++C)from rfl,List.set_append_right _ _ (by simp),List.length_reverse,Nat.sub_self];rfl
   rw[J93 c,if_neg c]
  rw[hd,hn];unfold J2_1 K1e;by_cases c:x<y;·rw[if_pos c]at st⊢;rw[J9l (s':=((A.length:Int),A.reverse++x::((y::B)++C))) st];exact K4l b i C A x (y::B) (by simp only[List.length_cons];omega)
  rw[if_neg c]at st⊢;rw[J96 st,hd.symm];simp
theorem Jzy(n:Nat)(hn:n<=500):∀(k i:Nat) (d:List Int),d.length=n->i+k=n->1<=i->Jem (d.take i)->∃r,J2_2 0 (n:Int) (i:Int) d=some r/\r.Perm d/\Jem r
 |0,i,d,hd,hi,h1,hs=>by refine⟨d, ?_,List.Perm.refl _,by rw[List.take_of_length_le (by omega)]at hs;exact hs⟩;unfold J2_2;refine J96 ?_;show J2_2_step 0 (n:Int) (i:Int) d=_;unfold J2_2_step;rw[oF]
 |k+1,i,d,hd,hi,h1,hs=>by have hlt:i<d.length:=(by omega);have hsplit:d=(d.take i).reverse.reverse++d[i]::([]++d.drop (i+1)):=(by simp_all);have hlA:((d.take i).reverse.length:Int)=(i:Int):=(by rw[List.length_reverse,List.length_take];omega);have hin:=K4l (n:Int) (i:Int) (d.drop (i+1)) (d.take i).reverse d[i] [] (by rw[List.length_reverse,List.length_take,List.length_drop,List.length_nil];omega);rw[<-hsplit,hlA]at hin;have hp:=Jug (d.take i).reverse d[i] [];have hs2:=Jnk (A:=(d.take i).reverse) (x:=d[i]) (B:=[]) (by rw[List.reverse_reverse,List.append_nil];exact hs) (by simp);have hlr:=Jzg (d.take i).reverse d[i] [];rw[List.length_reverse,List.length_take,List.length_nil]at hlr;have hpd:(K1e (d.take i).reverse d[i] []++d.drop (i+1)).Perm d:=(by grind);obtain⟨r,e,p1,p2⟩:=Jzy n hn k (i+1) (K1e (d.take i).reverse d[i] []++d.drop (i+1)) (by rw[hpd.length_eq];exact hd) (by omega) (by omega) (by rw[List.take_append_of_le_length (by omega),List.take_of_length_le (by omega)];exact hs2);refine⟨r, ?_,p1.trans hpd,p2⟩;unfold J2_2 at e⊢;rw[J9l (s':=(0,(n:Int),((i+1:Nat):Int),K1e (d.take i).reverse d[i] []++d.drop (i+1))) (by show J2_2_step 0 (n:Int) (i:Int) d=_;unfold J2_2_step;rw[oT,hin,J8a];dsimp only;rw[oW];rfl)];exact e
set_option maxRecDepth 100000 in
theorem len_ok:∀n:Nat,n<=12->∃k,J82 (UInt64.ofNat (Int.toNat ((n:Int)%18446744073709551616)))=some k:=by
 intro n hn;have:n=0\/n=1\/n=2\/n=3\/n=4\/n=5\/n=6\/n=7\/n=8\/n=9\/n=10\/n=11\/n=12:=by omega
 rcases this with rfl|rfl|rfl|rfl|rfl|rfl|rfl|rfl|rfl|rfl|rfl|rfl|rfl<;>exact⟨_,rfl⟩
set_option maxRecDepth 100000 in
theorem Kfw(d:List Int)(hd:d.length<=12):J3q d=some (Jy6 d):=by
 obtain⟨k,hk⟩:=len_ok d.length hd;have main:J2 0 (d.length:Int) d=some (Jy6 d):=by
  unfold J2;rw[show w64 ((0:Int)+1)=((1:Nat):Int)from rfl];by_cases c:d.length=0;·have:d=[]:=List.eq_nil_of_length_eq_zero c;subst this;unfold J2_2;rw[J96 (r:=[]) rfl];rfl
  obtain⟨r,e,p1,p2⟩:=Jzy d.length (by omega) (d.length - 1) 1 d rfl (by omega) (Nat.le_refl 1) (by match d,c with|x::l,_=>exact List.pairwise_singleton _ _)
  rw[e,J8a,Jiu p2 (Je6 d) (p1.trans (Jfe d).symm)]
 unfold J3q J02 J02_1;rw[hk,J8a,J96 (r:=Jy6 d) (by unfold J02_1_step;rw[oW,oT,main,J8a])];rfl
theorem Jvh(f:(List (Int×α))->Option (List Int))(l:List (Int×α))(hl:l.length<=12)(hf:f l=K1n (∀ss:List Int,ss.Perm (l.map (·.1))->J3q ss=some (Jy6 (l.map (·.1)))) (need (List.length l<=1000) (some (Jy6 (l.map (·.1)))))):f l=some (Jy6 (l.map (·.1))):=by rw[hf,K1p (λss hs=>by rw[Kfw ss (by rw[hs.length_eq,List.length_map];exact hl),Kfx hs]),oN]
def l3:List Pr:=[([97],[],()),([99],[],()),([101],[],())]
theorem K1v(a b:List Pr)(hl:a.length=b.length)(r r0:ρ)(hr:r≠r0):scan (λi=>if a.getD i zPr=b.getD i zPr then none else some r) r0 0 a.length=if a=b then r0 else r:=by
 by_cases e:a=b;·subst e;rw[if_pos rfl];exact Jfc _ _ (λj _ _=>if_pos rfl)
 rw[if_neg e];have:∃j,j<a.length/\a.getD j zPr≠b.getD j zPr:=by apply Classical.byContradiction;intro hn;apply e;apply List.ext_getElem hl;simp_all
 obtain⟨j,hj⟩:=Nat.find_of this;refine Je0 a.length 0 j (Nat.zero_le _) (by omega) (λj' _ h=>if_pos ?_) (if_neg hj.1.2);grind
theorem Js8 x0 x1 (x2:Int) (x3:Int):J03_1_step x0 x1 x2 x3=(J8b (decide (x3<x2)) (need (0<=x3/\x3<(List.length x0:Int)) (need (0<=x3/\x3<(List.length x1:Int)) (J8b (!(Ty.beq (.fld .str (.fld .str .unit)) (List.getD x0 (Int.toNat x3) zPr) (List.getD x1 (Int.toNat x3) zPr))) (some (.inr (.inl false))) (some (.inl (w64 (x3+(1:Int)))))))) (some (.inr (.inr ()))):Option ((Int)⊕((Bool)⊕(Unit)))):=rfl
theorem Juz(a b:List Pr)(ha:a.length<=1073741824):J03 a b=some (decide (a=b)):=by
 by_cases hl:a.length=b.length
 ·have h:J03_1 a b (a.length:Int) 0=some (scan (λi=>if a.getD i zPr=b.getD i zPr then none else some (.inl false)) (.inr ()) 0 a.length):=by
   refine Jc3 (step:=λ(s:Int)=>J03_1_step a b (a.length:Int) s) (λi=>(i:Int)) _ _ a.length (λi hi h=> ?_) (λi r hi h=> ?_) ?_ a.length 0 (by omega)
   ·rw[Js8,oT,oN,oN,Int.toNat_natCast,pbeq,oW];by_cases e:a.getD i zPr=b.getD i zPr;·rw[Jd2 e];rfl
    rw[if_neg e]at h;cases h
   ·rw[Js8,oT,oN,oN,Int.toNat_natCast,pbeq];by_cases e:a.getD i zPr=b.getD i zPr;·rw[if_pos e]at h;cases h
    rw[if_neg e]at h;injection h with h;subst h;rw[Jdt e]
   rw[Js8,oF]
  unfold J03;rw[Jd2 (by omega),h,J8a,K1v a b hl _ _ (by simp)];grind
 unfold J03;rw[Jdt (by omega),decide_eq_false (λe=>hl (by rw[e]))]
abbrev hq(a b:List UInt8):Bool:=Ty.beq (.arr 32 (.int .u8)) a b
theorem Kbs a b:hq a b=true↔a=b:=Ty.beq_iff (.arr 32 (.int .u8)) rfl a b
def okP(l:List Pr)(i:Nat):Bool:=Jxf (l.getD i zPr)&&(i==0||J91 (l.getD (i - 1) zPr).1 (l.getD i zPr).1)
def Jc6(l:List Pr):Bool:=(List.range l.length).all (okP l)&&decide (l.length<=30)
theorem K4t x0 x1 (x2:Int) (x3:Int):J2e_1_step x0 x1 x2 x3=(J8b (decide (x3<x2)) (need (0<=x3/\x3<(List.length x1:Int)) (J89 (J7t (List.getD x1 (Int.toNat x3) zPr)) (λu4=>J8b (!u4) (some (.inr (.inl false))) (J8b (decide ((0:Int)<x3)) (need (0<=(w64 (x3 - (1:Int)))/\(w64 (x3 - (1:Int)))<(List.length x0:Int)) (J8b (!J91 (List.getD x0 (Int.toNat (w64 (x3 - (1:Int)))) zPr).1 (List.getD x1 (Int.toNat x3) zPr).1) (some (.inr (.inl false))) (some (.inl (w64 (x3+(1:Int))))))) (some (.inl (w64 (x3+(1:Int))))))))) (some (.inr (.inr x0))):Option ((Int)⊕((Bool)⊕(List Pr)))):=rfl
theorem Jgz(l:List Pr)(hl:l.length<=1073741824):J2e l=some (Jc6 l):=by
 have main:J2e_1 l l (l.length:Int) 0=some (scan (λi=>if okP l i then none else some (.inl false)) (.inr l) 0 l.length):=by
  unfold J2e_1;have step:∀i,i<l.length->J2e_1_step l l (l.length:Int) (i:Int)=if okP l i then some (.inl ((i+1:Nat):Int))else some (.inr (.inl false)):=by
   intro i hi;rw[K4t];simp (disch:=omega)only[J8y,J9n,J8d,Int.toNat_natCast,K52,J8a];unfold okP;by_cases hm:Jxf (l.getD i zPr)
   ·rw[hm];by_cases h0:i=0;·subst h0;rw[oF];rfl
    rw[oT,oN,show Int.toNat ((i:Int) - 1)=i - 1 from by omega];have:(i==0)=false:=(by simp[h0]);rw[this,Bool.false_or];by_cases hs:J91 (l.getD (i - 1) zPr).1 (l.getD i zPr).1;·rw[hs];rfl
    rw[Bool.not_eq_true]at hs;rw[hs];rfl
   rw[Bool.not_eq_true]at hm;rw[hm];rfl
  refine Jc3 (step:=λ(s:Int)=>J2e_1_step l l (l.length:Int) s) (λi=>(i:Int)) _ _ l.length (λi hi h=> ?_) (λi r hi h=> ?_) ?_ l.length 0 (by omega)
  ·by_cases hk:okP l i;·exact(step i hi).trans (if_pos hk)
   rw[if_neg hk]at h;cases h
  ·grind
  rw[K4t,oF]
 unfold J2e;rw[main,J8a];unfold Jc6;by_cases hall:(List.range l.length).all (okP l);·rw[Jfc _ _ (λj _ h=>if_pos (List.all_eq_true.1 hall j (by simp;omega))),hall,Bool.true_and];dsimp only;congr 1;exact decide_eq_decide.2 (by omega)
 rw[Bool.not_eq_true]at hall;have:∃j,j<l.length/\okP l j=false:=by rw[List.all_eq_false]at hall;obtain⟨j,hj,hk⟩:=hall;exact⟨j,by simpa using hj,by simpa using hk⟩
 obtain⟨j,hj⟩:=Nat.find_of this;have hsc:scan (λi=>if okP l i then none else some (.inl false)) (.inr l:Bool⊕List Pr) 0 l.length= .inl false:=by
  refine Je0 l.length 0 j (Nat.zero_le _) (by omega) (λj' _ h=>if_pos ?_) (if_neg ?_);·have:=hj.2 j' h;cases hk:okP l j' with|true=>rfl|false=>exact absurd ⟨by omega,hk⟩ this
  rw[hj.1.2];simp
 rw[hall,hsc];rfl
theorem Jck(l:List Pr):Jc6 l=true↔Jaz l/\(∀p∈l,Jxf p=true)/\l.length<=30:=by
 unfold Jc6;rw[Bool.and_eq_true,decide_eq_true_eq];constructor
 ·rintro⟨h1,h2⟩;have key0:∀i,i<l.length->okP l i=true:=λi hi=>List.all_eq_true.1 h1 i (List.mem_range.2 hi);have hinc:incN (l.map λp:Pr=>p.1)=true:=by refine List.all_eq_true.2 λi hi=> ?_;have hi:=List.mem_range.1 hi;rw[List.length_map]at hi;have:=key0 (i+1) (by omega);unfold okP at this;grind
  refine⟨List.pairwise_map.1 (Juf _ hinc),λp hp=> ?_,h2⟩;obtain⟨i,hi,rfl⟩:=List.getElem_of_mem hp;have:=key0 i hi;unfold okP at this;grind
 rintro⟨h1,h2,h3⟩;refine⟨List.all_eq_true.2 λi hi=> ?_,h3⟩;have hi:=List.mem_range.1 hi;unfold okP;rw[Bool.and_eq_true,Bool.or_eq_true,beq_iff_eq];refine⟨h2 _ (Ja7 hi), ?_⟩;by_cases c:i=0;·exact .inl c
 exact .inr (Jjh h1 (by omega) hi)
theorem Kc1(h:Jxf p=true):1<=p.1.length/\p.1.length<=16/\p.2.1.length<=24:=by unfold Jxf at h;grind
theorem Jjy(h:Jc6 l=true):Jyh l/\Jaz l:=by obtain⟨h1,h2,h3⟩:=(Jck l).1 h;exact⟨⟨by omega,λp hp=>by have:=Kc1 (h2 p hp);omega⟩,h1⟩
noncomputable def Jma(p:Prf)(i:Nat):List UInt8×Bool:=upS (Jh0 (p.2.2.1.getD i zPr)) (p.2.1+(i:Int)) p.1 (p.2.2.2.1.getD i [])
noncomputable def Jes(root:List UInt8)(p:Prf)(i:Nat):Bool:=(Jma p i).2&&hq (Jpg p.1.toNat (Jma p i).1) root
noncomputable def Je4(root:List UInt8)(p:Prf):Bool:=decide (0<=p.1/\p.1<=30/\p.2.2.2.1.length=p.2.2.1.length)&&(Jc6 p.2.2.1&&(decide (0<=p.2.1/\p.2.1<=p.1 - (p.2.2.1.length:Int))&&(if p.1=0 then hq root (Jcl [])else(decide (0<p.2.2.1.length)&&(List.range p.2.2.1.length).all (Jes root p)))))
def Jlv(p:Prf):Prop:=(∀x∈p.2.2.2.1,x.length<=1000/\∀h∈x,h.length=32)/\p.2.2.1.length<=1000000/\p.2.2.2.1.length<=1000000
theorem upS_32 leaf i n p:(upS leaf i n p).1.length=32:=by
 unfold upS;split;·exact Jr4 _ _ _ (J9z _)
 simp
theorem K3s(n:Nat)(r:List UInt8)(hr:r.length=32):J6p (n:Int) r=some (Jpg n r):=by
 have hp:Jd9 [(n:Int)]=Jep n:=by simp[Jd9]
 have h1:=J9k (n:Int);have hf:[Jep (n:Int),r].flatten=Jep (n:Int)++r:=by simp
 unfold J6p;rw[put_eq _ (by simp),J8a,hp,Jay _ _ (by rw[hf,List.length_append];omega) (by simp),hf];rfl
theorem K3l x0 (x1:Int) (x2:Int) x3 (x4:Prf):J1y_1_step x0 x1 x2 x3 x4=(J8b (decide (x2<x1)) (need (0<=x2/\x2<(List.length x0:Int)) (J89 (J6s (List.getD x0 (Int.toNat x2) zPr)) (λu16=>need (0<=x2/\x2<(List.length x4.2.2.2.1:Int)) (J89 (J4s u16 (w64 (x4.2.1+x2)) x4.1 (List.getD x4.2.2.2.1 (Int.toNat x2) ([]:List (List UInt8)))) (λu19=>J8b (!u19.2) (some (.inr (.inl ()))) (J89 (J6p x4.1 u19.1) (λu22=>J8b (!(Ty.beq (.arr 32 (.int .u8)) u22 x3)) (some (.inr (.inl ()))) (some (.inl (w64 (x2+(1:Int)))))))))))) (some (.inr (.inr ()))):Option ((Int)⊕((Unit)⊕(Unit)))):=rfl
theorem Kar(f:Nat->Bool)(r r0:ρ)(n:Nat):scan (λi=>if f i then none else some r) r0 0 n=if(List.range n).all f then r0 else r:=by
 by_cases h:(List.range n).all f=true;·rw[if_pos h];exact Jfc _ _ λj _ hj=>if_pos (List.all_eq_true.1 h j (List.mem_range.2 (by omega)))
 rw[if_neg h];rw[Bool.not_eq_true,List.all_eq_false]at h;obtain⟨j,hj,hf⟩:=h;obtain⟨k,hk⟩:=Nat.find_of (p:=λj=>j<n/\¬f j=true) ⟨j,List.mem_range.1 hj,hf⟩
 refine Je0 n 0 k (Nat.zero_le _) (by omega) (λj' _ h=>if_pos ?_) (if_neg hk.1.2);grind
theorem Keq(h:Jlv p)(i:Nat):(∀x∈p.2.2.2.1.getD i [],x.length=32)/\(p.2.2.2.1.getD i []).length<=100000:=by
 by_cases c:i<p.2.2.2.1.length;·have:=h.1 _ (Ja7 (z:=[]) c);exact⟨this.2,by omega⟩
 grind
theorem Jj7 root (p:Prf) (h:Jlv p):J1y root p=some (Je4 root p):=by
 have hn:=h.2.1;unfold J1y Je4;by_cases c1:p.1<0;·rw[J8y c1,decide_eq_false (λq=>absurd q.1 (by omega))];rfl
 rw[J93 c1];by_cases c2:30<p.1;·rw[J8y c2,decide_eq_false (λq=>absurd q.2.1 (by omega))];rfl
 rw[J93 c2];by_cases c3:p.2.2.2.1.length=p.2.2.1.length;case neg=>rw[Jdt (by omega),decide_eq_false (λq=>c3 q.2.2)];rfl
 rw[Jd2 (by omega),Jgz _ (by omega),J8a,decide_eq_true (p:=0<=p.1/\p.1<=30/\p.2.2.2.1.length=p.2.2.1.length) ⟨by omega,by omega,c3⟩,Bool.true_and];cases c4:Jc6 p.2.2.1 with
 |false=>rfl
 | true=>
  obtain⟨hk,hr⟩:=Jjy c4;have hl:=hk.1;rw[Bool.not_true,J8t,Bool.true_and];by_cases c5:p.2.1<0;·rw[J8y c5,decide_eq_false (λq=>absurd q.1 (by omega))];rfl
  rw[J93 c5,oW];by_cases c6:p.1 - (p.2.2.1.length:Int)<p.2.1;·rw[J8y c6,decide_eq_false (λq=>absurd q.2 (by omega))];rfl
  rw[J93 c6,decide_eq_true (p:=0<=p.2.1/\p.2.1<=p.1 - (p.2.2.1.length:Int)) ⟨by omega,by omega⟩,Bool.true_and];by_cases c7:p.1=0;·rw[J8y c7,if_pos c7,Jka [] ⟨by simp,by simp⟩,J8a]
  rw[J93 c7,if_neg c7];by_cases c8:p.2.2.1.length=0;·rw[oT,decide_eq_false (by omega)];rfl
  rw[oF,decide_eq_true (p:=0<p.2.2.1.length) (by omega),Bool.true_and];have m:J1y_1 p.2.2.1 (p.2.2.1.length:Int) 0 root p=some (scan (λi=>if Jes root p i then none else some (.inl ())) (.inr ()) 0 p.2.2.1.length):=by
   unfold J1y_1;have step:∀i,i<p.2.2.1.length->J1y_1_step p.2.2.1 (p.2.2.1.length:Int) (i:Int) root p=if Jes root p i then some (.inl ((i+1:Nat):Int))else some (.inr (.inl ())):=by intro i hi;obtain⟨po1,po2⟩:=Keq h i;have hlf:=hk.2 _ (Ja7 (z:=zPr) hi);have hlb:=Jjj hlf;have hnum:p.1=((p.1.toNat:Nat):Int):=(by omega);have hw:J6p p.1 (upS (Jh0 (p.2.2.1.getD i zPr)) (p.2.1+(i:Int)) p.1 (p.2.2.2.1.getD i [])).1=some (Jpg p.1.toNat (upS (Jh0 (p.2.2.1.getD i zPr)) (p.2.1+(i:Int)) p.1 (p.2.2.2.1.getD i [])).1):=(by have:=K3s p.1.toNat _ (upS_32 (Jh0 (p.2.2.1.getD i zPr)) (p.2.1+(i:Int)) p.1 (p.2.2.2.1.getD i []));rw[<-hnum]at this;exact this);rw[K3l,oT,oN,Int.toNat_natCast,Jxb _ hlf,J8a,oN,oX (p.2.1+(i:Int)),up_eq _ (by omega) _ _ (by omega) _ po1 po2,J8a,hw,J8a,oW];unfold Jes Jma;cases (upS (Jh0 (p.2.2.1.getD i zPr)) (p.2.1+(i:Int)) p.1 (p.2.2.2.1.getD i [])).2 with|false=>rfl|true=>rw[Bool.not_true,J8t,Bool.true_and];unfold hq;cases Ty.beq (.arr 32 (.int .u8)) (Jpg p.1.toNat (upS (Jh0 (p.2.2.1.getD i zPr)) (p.2.1+(i:Int)) p.1 (p.2.2.2.1.getD i [])).1) root<;>rfl
   refine Jc3 (step:=λ(s:Int)=>J1y_1_step p.2.2.1 (p.2.2.1.length:Int) s root p) (λi=>(i:Int)) _ _ p.2.2.1.length (λi hi h=> ?_) (λi r hi h=> ?_) ?_ p.2.2.1.length 0 (by omega)
   ·by_cases hk:Jes root p i;·exact(step i hi).trans (if_pos hk)
    rw[if_neg hk]at h;cases h
   ·by_cases hk:Jes root p i;·rw[if_pos hk]at h;cases h
    rw[if_neg hk]at h;injection h with h;subst h;exact(step i hi).trans (if_neg hk)
   rw[K3l,oF]
  rw[m,J8a,Kar];cases (List.range p.2.2.1.length).all (Jes root p)<;>rfl
theorem K04(h:Je4 root p=true):Jyh p.2.2.1/\Jaz p.2.2.1:=by unfold Je4 at h;rw[Bool.and_eq_true,Bool.and_eq_true]at h;exact Jjy h.2.1
theorem K6v(h:Je4 root p=true):0<=p.1/\p.1<=30/\0<=p.2.1/\p.2.1<=p.1 - (p.2.2.1.length:Int)/\(p.2.2.1.length=0↔p.1=0):=by unfold Je4 at h;grind
def inR(a b:List UInt8)(p:Pr):Bool:= !J91 p.1 a&&J91 p.1 b
def Jch(l:List Pr)(a b:List UInt8):List Pr:=l.filter (inR a b)
theorem K9t{a b:Nat}:q∈J9v l (a:Int) (b:Int)↔∃i,a<=i/\i<b/\i<l.length/\l.getD i zPr=q:=by
 unfold J9v;constructor;·intro h;obtain⟨i,h1,h2,h3⟩:=Jln h;grind
 rintro⟨i,h1,h2,h3,rfl⟩;have hm:((l.take b).drop a).getD (i - a) zPr=l.getD i zPr:=by grind
 grind
theorem Jku(l:List Pr)(hr:Jaz l)(hl:l.length<=1000) a b:J66 l a b=some (Jch l a b):=by
 have h1:=below_le l a;have h2:=below_le l b;have e:J9v l ((J8j l a:Nat):Int) ((max (J8j l a) (J8j l b):Nat):Int)=Jch l a b:=by
  refine Jnn ?_ (hr.sublist List.filter_sublist) λq=> ?_;·unfold J9v;exact(hr.sublist (List.take_sublist _ _)).sublist (List.drop_sublist _ _)
  rw[K9t];unfold Jch inR;rw[List.mem_filter,Bool.and_eq_true,Bool.not_eq_true'];constructor;·rintro⟨i,g1,g2,g3,rfl⟩;refine⟨Ja7 g3, ?_,(Jbj hr b g3).2 (by omega)⟩;cases c:J91 (l.getD i zPr).1 a with|false=>rfl|true=>have:=(Jbj hr a g3).1 c;omega
  rintro⟨g1,g2,g3⟩;obtain⟨i,hi,rfl⟩:=List.getElem_of_mem g1;have hg:l.getD i zPr=l[i]:=(by rw[List.getD_eq_getElem?_getD,List.getElem?_eq_getElem hi];rfl);rw[<-hg]at g2 g3;have:=(Jbj hr b hi).1 g3;refine⟨i, ?_,by omega,hi,hg⟩;apply Classical.byContradiction;intro c;rw[(Jbj hr a hi).2 (by omega)]at g2;cases g2
 unfold J66;rw[Jgy l hr hl,J8a,Jgy l hr hl,J8a,show max (J8j l a:Int) (J8j l b:Int)=((max (J8j l a) (J8j l b):Nat):Int)from by omega,oN,e];unfold Jj;have hle:(Jch l a b).length<=l.length:=List.length_filter_le _ _;rw[oN,J8a]
def Jqz(p:Prf)(a:List UInt8):Bool:=decide (p.2.1=0)||J91 (p.2.2.1.getD 0 zPr).1 a
def K8s(p:Prf)(m:List UInt8):Bool:=decide (p.2.1+(p.2.2.1.length:Int)=p.1)|| !J91 (p.2.2.1.getD (p.2.2.1.length - 1) zPr).1 m
noncomputable def Jdy(root a b:List UInt8)(p:Prf):List Pr×Bool:=if Je4 root p then(if p.2.2.1.length=0 then([],true)else if Jqz p a&&K8s p (maxS a b)then(Jch p.2.2.1 a b,true)else([],false))else([],false)
theorem Jj6 root a b p (h:Jlv p):J6o root a b p=some (Jdy root a b p):=by
 unfold J6o Jdy;rw[Jj7 root p h,J8a];cases hs:Je4 root p with
 |false=>rfl
 | true=>
  obtain⟨hk,hr⟩:=K04 hs;have hl:=hk.1;obtain⟨n1,n2,n3,n4,n5⟩:=K6v hs;rw[Bool.not_true,J8t,if_pos rfl,Jku _ hr (by omega),J8a];by_cases c:p.2.2.1.length=0;·rw[oT,if_pos c]
  rw[oF,if_neg c,oX (p.2.1+_),oW,oN,oN,show Int.toNat ((p.2.2.1.length:Int) - 1)=p.2.2.1.length - 1 from by omega,show Int.toNat (0:Int)=0 from rfl];unfold Jqz K8s;by_cases c1:p.2.1=0
  ·rw[J8y c1,decide_eq_true c1,Bool.true_or,Bool.true_and];by_cases c2:p.2.1+(p.2.2.1.length:Int)=p.1;·rw[J8y c2,decide_eq_true c2];rfl
   rw[J93 c2,decide_eq_false c2,Bool.false_or];show J8b (!(!J91 (p.2.2.1.getD (p.2.2.1.length - 1) zPr).1 (maxS a b))) _ _=_;cases J91 (p.2.2.1.getD (p.2.2.1.length - 1) zPr).1 (maxS a b)<;>rfl
  rw[J93 c1,decide_eq_false c1,Bool.false_or];by_cases c2:p.2.1+(p.2.2.1.length:Int)=p.1;·rw[J8y c2,decide_eq_true c2,Bool.true_or,Bool.and_true];show J8b (!J91 (p.2.2.1.getD 0 zPr).1 a) _ _=_;cases J91 (p.2.2.1.getD 0 zPr).1 a<;>rfl
  rw[J93 c2,decide_eq_false c2,Bool.false_or,oN];show J8b (!J91 (p.2.2.1.getD 0 zPr).1 a) _ (J8b (!(!J91 (p.2.2.1.getD (p.2.2.1.length - 1) zPr).1 (maxS a b))) _ _)=_;cases J91 (p.2.2.1.getD 0 zPr).1 a<;>cases J91 (p.2.2.1.getD (p.2.2.1.length - 1) zPr).1 (maxS a b)<;>rfl
theorem Jv2(h:(Jdy root a b p).2=true):Je4 root p=true:=by unfold Jdy at h;grind
noncomputable def absS(root k:List UInt8)(p:Prf):Bool:=(Jdy root k k p).2&& !Ji1 p.2.2.1 k
theorem Jp8 root k p (h:Jlv p):J72 root k p=some (absS root k p):=by unfold J72 absS;rw[Jj6 root k k p h,J8a];cases hs:(Jdy root k k p).2 with|false=>rfl|true=>obtain⟨hk,hr⟩:=K04 (Jv2 hs);have hl:=hk.1;rw[Bool.not_true,Jft _ hr (by omega)];cases Ji1 p.2.2.1 k<;>rfl
noncomputable def Jps(root:List UInt8)(x:Pr)(p:Prf):Bool:=Je4 root p&&decide (p.2.2.1=[x])
theorem Jr3 root x p (h:Jlv p):J6x root x p=some (Jps root x p):=by have:=h.2.1;unfold J6x Jps;rw[Jj7 root p h,J8a];cases Je4 root p with|false=>rfl|true=>rw[Jbt,Juz _ _ (by omega),J8a,Bool.true_and]
theorem Jmh l (h:Jyh l) F T (hT:T<=1000):Jlv (Jb6 l F T):=by
 have hl:=h.1;unfold Jb6;by_cases c:T<=F;·rw[if_pos c];exact⟨by simp,by simp,by simp⟩
 rw[if_neg c];obtain⟨a,b⟩:=K3 l hl F (T - F);refine⟨λx hx=>⟨by have:=b x hx;omega, ?_⟩,by show((l.drop F).take (T - F)).length<=_;rw[List.length_take];omega,by show(Jd8 l F (T - F)).length<=_;omega⟩;obtain⟨j,_,rfl⟩:=List.mem_map.1 hx;unfold Jdg;split;·exact Jjs _ _ _
 simp
theorem Kg6(l:List Pr)(hl:l.length<=60)(i:Nat)(hi:i<l.length):upS (Jh0 (l.getD i zPr)) (i:Int) (l.length:Int) (Jdg (J98 l) (i:Int))=(Jbv (J98 l),true):=by
 have hg:(J98 l).getD i []=Jh0 (l.getD i zPr):=by unfold J98;grind
 have hp:=Js7 l.length (J98 l) i (by rw[J9i];omega) (by rw[J9i];omega) (by rw[J9i];omega);have hs:=Jdl l.length (J98 l) i (by rw[J9i];omega);rw[J9i,hg]at hp;rw[J9i]at hs;have e:Jdg (J98 l) (i:Int)=Jbc l.length (J98 l) i:=by unfold Jdg;rw[J9i,oI,Int.toNat_natCast]
 unfold upS;rw[e,if_pos ⟨(Jio _ _).2 (by omega),by rw[Int.toNat_natCast];exact hs⟩,Int.toNat_natCast,Int.toNat_natCast,hp]
theorem K6f(h:K81 l):Jc6 l=true:=by rw[Jck];refine⟨h.1,λp hp=> ?_,by have:=h.2.1;omega⟩;have:=Kby _ (h.2.2.1 p hp);have h3:=h.2.2.2 p hp;unfold Jxf;grind
theorem Jol(h:Jc6 l=true)(hs:m.Sublist l):Jc6 m=true:=by obtain⟨h1,h2,h3⟩:=(Jck l).1 h;exact(Jck m).2 ⟨h1.sublist hs,λp hp=>h2 p (hs.subset hp),Nat.le_trans hs.length_le h3⟩
theorem Je3(l:List Pr){F T:Nat}(h:F<T):Jb6 l F T=((l.length:Int),(F:Int),(l.drop F).take (T - F),Jd8 l F (T - F),()):=by unfold Jb6;rw[oJ]
theorem K27 root (l:List Pr) (h:Jc6 l=true) (F T:Nat) (hT:T<=l.length):Je4 root (Jb6 l F T)=if l.length=0 then hq root (Jcl [])else decide (F<T)&&hq (Jcl l) root:=by
 obtain⟨hk,hr⟩:=Jjy h;have h30:=((Jck l).1 h).2.2;by_cases c:F<T
 ·have e1:((l.drop F).take (T - F)).length=T - F:=by rw[List.length_take,List.length_drop];omega
  obtain⟨e2,e3⟩:=K3 l hk.1 F (T - F);have hat:∀i,i<T - F->Jes root (Jb6 l F T) i=hq (Jcl l) root:=λi hi=>by have g1:((l.drop F).take (T - F)).getD i zPr=l.getD (F+i) zPr:=(by grind);have g2:(Jd8 l F (T - F)).getD i []=Jdg (J98 l) ((F+i:Nat):Int):=(by unfold Jd8;rw[List.getD_eq_getElem?_getD,List.getElem?_map,List.getElem?_range hi];rfl);have hu:=Kg6 l hk.1 (F+i) (by omega);unfold Jes Jma;rw[Je3 l c];dsimp only;rw[g1,g2,show(F:Int)+(i:Int)=((F+i:Nat):Int)from by omega,hu,Int.toNat_natCast];rfl
  rw[oJ,decide_eq_true c,Bool.true_and];have hall:(List.range (T - F)).all (Jes root (Jb6 l F T))=hq (Jcl l) root:=by cases hv:hq (Jcl l) root with|true=>exact List.all_eq_true.2 λi hi=>by rw[hat i (List.mem_range.1 hi),hv]|false=>exact List.all_eq_false.2 ⟨0,List.mem_range.2 (by omega),by rw[hat 0 (by omega),hv];simp⟩
  unfold Je4;rw[Je3 l c]at hall⊢;dsimp only at hall⊢;rw[e1,e2,hall,Jol h ((List.take_sublist _ _).trans (List.drop_sublist _ _)),decide_eq_true (p:=0<=(l.length:Int)/\(l.length:Int)<=30/\T - F=T - F) ⟨by omega,by omega,rfl⟩,decide_eq_true (p:=0<=(F:Int)/\(F:Int)<=(l.length:Int) - ((T - F:Nat):Int)) ⟨by omega,by omega⟩,oJ,decide_eq_true (p:=0<T - F) (by omega)];rfl
 have es:Jb6 l F T=((l.length:Int),0,[],[],()):=by unfold Jb6;rw[oI]
 have hn:Jc6 ([]:List Pr)=true:=rfl;rw[decide_eq_false c,Bool.false_and];unfold Je4;grind
theorem Jqh(l:List Pr)(h:Jc6 l=true) F T (hT:T<=l.length):Je4 (Jcl l) (Jb6 l F T)=(decide (l.length=0)||decide (F<T)):=by
 rw[K27 _ l h F T hT];by_cases c:l.length=0;·have:l=[]:=List.length_eq_zero_iff.1 c;subst this;exact(Kbs _ _).2 rfl
 rw[if_neg c,decide_eq_false c,Bool.false_or,(Kbs (Jcl l) (Jcl l)).2 rfl,Bool.and_true]
theorem Jht(l:List Pr)(hr:Jaz l) a b F T (hFT:F<T) (hT:T<=l.length) (h1:F=0\/F<J8j l a) (h2:T=l.length\/J8j l (maxS a b)<T):Jch ((l.drop F).take (T - F)) a b=Jch l a b:=by
 have hm:J91 b a=true\/J8j l b<=J8j l (maxS a b):=by
  unfold maxS;cases c:J91 a b with
  |true=>exact .inr (Nat.le_refl _)
  |false=>
   rcases Jk5 a b c with e|e;·grind
   exact .inl e
 refine Jnn (((hr.sublist (List.drop_sublist _ _)).sublist (List.take_sublist _ _)).sublist List.filter_sublist) (hr.sublist List.filter_sublist) λq=> ?_;unfold Jch;rw[List.mem_filter,List.mem_filter];refine⟨λh=>⟨List.mem_of_mem_drop (List.mem_of_mem_take h.1),h.2⟩,λh=>⟨?_,h.2⟩⟩;obtain⟨g1,g2⟩:=h;unfold inR at g2;rw[Bool.and_eq_true,Bool.not_eq_true']at g2;obtain⟨i,hi,rfl⟩:=List.getElem_of_mem g1;have hg:l.getD i zPr=l[i]:=by rw[List.getD_eq_getElem?_getD,List.getElem?_eq_getElem hi];rfl
 rw[<-hg]at g2⊢;have q1:=(Jbj hr b hi).1 g2.2;have q2:J8j l a<=i:=by apply Classical.byContradiction;intro c;rw[(Jbj hr a hi).2 (by omega)]at g2;cases g2.1
 have q3:i<T:=by
  rcases hm with e|e;·have:=Jau _ _ _ g2.2 e;rw[g2.1]at this;cases this
  omega
 have hm2:((l.drop F).take (T - F)).getD (i - F) zPr=l.getD i zPr:=by grind
 rw[<-hm2];exact Ja7 (by rw[List.length_take,List.length_drop];omega)
theorem K8t(l:List Pr)(hFT:F<T)(hT:T<=l.length):((l.drop F).take (T - F)).length=T - F/\((l.drop F).take (T - F)).getD 0 zPr=l.getD F zPr/\((l.drop F).take (T - F)).getD (T - F - 1) zPr=l.getD (T - 1) zPr:=by grind
theorem Jxr(l:List Pr)(h:Jc6 l=true) a b F T (hT:T<=l.length):Jdy (Jcl l) a b (Jb6 l F T)=if l.length=0\/(F<T/\(F=0\/F<J8j l a)/\(T=l.length\/J8j l (maxS a b)<T))then(Jch l a b,true)else([],false):=by
 obtain⟨hk,hr⟩:=Jjy h;unfold Jdy;rw[Jqh l h F T hT];by_cases c0:l.length=0
 ·have e0:l=[]:=List.length_eq_zero_iff.1 c0;have es:Jb6 l F T=((l.length:Int),0,[],[],()):=by unfold Jb6;rw[oI]
  rw[decide_eq_true c0,Bool.true_or,if_pos rfl,es,if_pos (by rfl),if_pos (.inl c0),e0];rfl
 rw[decide_eq_false c0,Bool.false_or];by_cases c:F<T
 ·obtain⟨e1,e2,e3⟩:=K8t l c hT;rw[decide_eq_true c,if_pos rfl];have hb:Jqz (Jb6 l F T) a=decide (F=0\/F<J8j l a):=by unfold Jqz;rw[Je3 l c];dsimp only;rw[e2,Bool.eq_iff_iff,Bool.or_eq_true,decide_eq_true_eq,decide_eq_true_eq,Jbj hr a (by omega)];omega
  have he:K8s (Jb6 l F T) (maxS a b)=decide (T=l.length\/J8j l (maxS a b)<T):=by unfold K8s;rw[Je3 l c];dsimp only;rw[e1,e3,Bool.eq_iff_iff,Bool.or_eq_true,decide_eq_true_eq,decide_eq_true_eq,Bool.not_eq_true',<-Bool.not_eq_true,Jbj hr _ (by omega)];omega
  rw[hb,he,Je3 l c];dsimp only;rw[e1,oJ];by_cases q:(F=0\/F<J8j l a)/\(T=l.length\/J8j l (maxS a b)<T);·have hP:l.length=0\/(F<T/\(F=0\/F<J8j l a)/\(T=l.length\/J8j l (maxS a b)<T)):=.inr ⟨c,q⟩;rw[decide_eq_true q.1,decide_eq_true q.2,Bool.true_and,if_pos rfl,if_pos hP,Jht l hr a b F T c hT q.1 q.2]
  grind
 grind
theorem Jlk(l:List Pr)(hrt:Jc6 l=true) a b:Jdy (Jcl l) a b (Jb6 l (J8j l a - 1) (min (J8j l (maxS a b)+1) l.length))=(Jch l a b,true):=by
 have h1:=below_le l a;have h3:J91 (maxS a b) a=false:=by
  unfold maxS;cases c:J91 a b with
  |true=>show J91 b a=false;cases q:J91 b a with|false=>rfl|true=>have:=Jau _ _ _ c q;rw[Je2]at this;cases this
  |false=>exact Je2 a
 have h4:=K0u l (maxS a b) a h3;rw[Jxr l hrt _ _ _ _ (by omega),if_pos];by_cases c:l.length=0;·exact .inl c
 exact .inr ⟨by omega,by omega,by omega⟩
theorem K6u(l:List Pr){k:Nat}(hk:k<l.length):Jb6 l k (k+1)=((l.length:Int),(k:Int),[l.getD k zPr],[Jdg (J98 l) (k:Int)],()):=by unfold Jb6;rw[oJ,show k+1 - k=0+1 from by omega,Ji6 l (by omega)];rfl
abbrev Rsp:=Int×Int×List Pr×Prf×Unit
abbrev Qry:=Int×List UInt8×List UInt8×Int×Int×Unit
def Kd1(r:Rsp):Bool:=decide (1<=r.2.1)&&(decide (r.2.1<=16)&&Jc6 r.2.2.1)
theorem Jie(r:Rsp)(h:r.2.2.1.length<=1073741824):J6f r=some (Kd1 r):=by unfold J6f Kd1;rw[Jgz _ h];cases decide (1<=r.2.1)<;>cases decide (r.2.1<=16)<;>rfl
noncomputable def admS(q:Qry)(root:List UInt8)(r:Rsp):Int:=if Kd1 r then if q.1=2 then(if(Jdy root q.2.1 q.2.2.1 r.2.2.2.1).2&&decide ((Jdy root q.2.1 q.2.2.1 r.2.2.2.1).1=r.2.2.1)then 0 else 2)else if r.2.2.1.length=0 then(if absS root q.2.1 r.2.2.2.1 then 0 else 2)else if r.2.2.1.length=1 then(if decide ((r.2.2.1.getD 0 zPr).1=q.2.1)&&Jps root (r.2.2.1.getD 0 zPr) r.2.2.2.1 then 0 else 2)else 2 else 1
theorem K1x(h:Jlv p):(Jdy root a b p).1.length<=1000000:=by
 have:=h.2.1;unfold Jdy;split
 ·split;·simp
  split;·exact Nat.le_trans (List.length_filter_le _ _) this
  simp
 simp
theorem Jmq q root (r:Rsp) (h:Jlv r.2.2.2.1) (hl:r.2.2.1.length<=1073741824):J6w q root r=some (admS q root r):=by
 unfold J6w admS;rw[Jie r hl,J8a];cases Kd1 r with
 |false=>rfl
 |true=>
  rw[Bool.not_true,J8t,if_pos rfl];by_cases c:q.1=2;·have hrl:=K1x (root:=root) (a:=q.2.1) (b:=q.2.2.1) h;rw[J8y c,if_pos c,Jj6 _ _ _ _ h,J8a];cases (Jdy root q.2.1 q.2.2.1 r.2.2.2.1).2 with|false=>rfl|true=>rw[Juz _ _ (by omega)];cases decide ((Jdy root q.2.1 q.2.2.1 r.2.2.2.1).1=r.2.2.1)<;>rfl
  rw[J93 c,if_neg c];by_cases c0:r.2.2.1.length=0;·rw[oT,if_pos c0,Jp8 _ _ _ h];cases absS root q.2.1 r.2.2.2.1<;>rfl
  rw[oF,if_neg c0];by_cases c1:r.2.2.1.length=1;·rw[oT,if_pos c1,oN];show J8b (decide ((r.2.2.1.getD 0 zPr).1=q.2.1)) (J89 (J6x root (r.2.2.1.getD 0 zPr) r.2.2.2.1) _) _=_;rw[Jr3 _ _ _ h];cases decide ((r.2.2.1.getD 0 zPr).1=q.2.1)with|false=>rfl|true=>cases Jps root (r.2.2.1.getD 0 zPr) r.2.2.2.1<;>rfl
  rw[oF,if_neg c1]
def endQ(q:Qry):List UInt8:=if q.1=1 then q.2.1 else q.2.2.1
noncomputable def Jm0(id:Int)(q:Qry)(h:Int)(l:List Pr):Rsp:=if q.1=1/\Ji1 l q.2.1=true then(id,h,[l.getD (J8j l q.2.1) zPr],Jb6 l (J8j l q.2.1) (J8j l q.2.1+1),())else(id,h,Jch l q.2.1 (endQ q),Jb6 l (J8j l q.2.1 - 1) (min (J8j l (maxS q.2.1 (endQ q))+1) l.length),())
abbrev Ent:=Qry×Int×Int×Unit
abbrev ib:Int->Int->Bool:=Ty.beq (.int .i64)
theorem Jne a b:ib a b=decide (a=b):=by rfl
def Jak(g:Nat->Ent):Nat->Nat->List (Int×Ent)
 |_,0=>[]
 |s,m+1=>((s:Int)+1,g s)::Jak g (s+1) m
def Jpb:Nat->Nat->List Int
 |_,0=>[]
 |s,m+1=>((s:Int)+1)::Jpb (s+1) m
def Kb8(g:Nat->Ent)(j:Nat)(y:Ent):Nat->Ent:=λk=>if k=j then y else g k
theorem Jcj:∀(m s:Nat),(∀j,s<=j->j<s+m->g j=h j)->Jak g s m=Jak h s m
 |0,s,_=>rfl
 |m+1,s,e=>by unfold Jak;rw[e s (Nat.le_refl _) (by omega),Jcj m (s+1) λj h1 h2=>e j (by omega) (by omega)]
theorem Kj g:∀(m s:Nat),(Jak g s m).length=m
 |0,s=>rfl
 |m+1,s=>by unfold Jak;rw[List.length_cons,Kj]
theorem Jv8 g:∀(m s:Nat),(Jak g s m).map (·.1)=Jpb s m
 |0,s=>rfl
 |m+1,s=>by unfold Jak Jpb;rw[List.map_cons,Jv8]
theorem Jl1 g (j:Nat):∀(m s:Nat),s<=j->j<s+m->J8l ib ((j:Int)+1) (Jak g s m)=some (g j)
 |0,s,h1,h2=>by omega
 |m+1,s,h1,h2=>by
  unfold Jak J8l;rw[Jne];by_cases c:s=j;·grind
  rw[decide_eq_false (by omega)];exact Jl1 g j m (s+1) (by omega) (by omega)
theorem Joi g (j:Nat) y:∀(m s:Nat),s<=j->j<s+m->J8u ib ((j:Int)+1) y (Jak g s m)=Jak (Kb8 g j y) s m
 |0,s,h1,h2=>by omega
 |m+1,s,h1,h2=>by
  unfold Jak J8u;rw[Jne];by_cases c:s=j;·subst c;rw[decide_eq_true rfl,cond_true];rw[show Kb8 g s y s=y from if_pos rfl];congr 1;exact Jcj m (s+1) λj h1 h2=>(oJ).symm
  rw[decide_eq_false (by omega),cond_false,Joi g j y m (s+1) (by omega) (by omega),show Kb8 g j y s=g s from if_neg c]
theorem Jjf:∀(m s:Nat),(Jpb s m).length=m
 |0,s=>rfl
 |m+1,s=>by unfold Jpb;rw[List.length_cons,Jjf]
theorem Jzf:∀{m s:Nat} {x:Int},x∈Jpb s m->(s:Int)+1<=x
 |0,s,x,h=>by cases h
 |m+1,s,x,h=>by
  rcases List.mem_cons.1 h with rfl|h;·omega
  have:=Jzf h;omega
theorem Jnf:∀(m s:Nat),Jem (Jpb s m)
 |0,s=>List.Pairwise.nil
 |m+1,s=>by exact List.pairwise_cons.2 ⟨λx hx=>by have:=Jzf hx;omega,Jnf m (s+1)⟩
theorem Jrx:∀(m s i:Nat),i<m->(Jpb s m).getD i 0=(s:Int)+i+1
 |0,s,i,h=>by omega
 |m+1,s,0,h=>by unfold Jpb;rw[List.getD_cons_zero];omega
 |m+1,s,i+1,h=>by unfold Jpb;rw[List.getD_cons_succ,Jrx m (s+1) i (by omega)];omega
theorem K20 g (m:Nat) (hm:m<=12):J56 (Jak g 0 m)=some (Jpb 0 m):=by rw[Jvh J56 (Jak g 0 m) (by rw[Kj];exact hm) rfl,Jv8,Jiu (Je6 _) (Jnf m 0) (Jfe _)]
def Jc4(p:Nat->Bool):Nat->List Int
 |0=>[]
 |i+1=>Jc4 p i++(if p i then[(i:Int)+1]else[])
theorem Jjt p:∀i,(Jc4 p i).length<=i
 |0=>Nat.le_refl _
 |i+1=>by unfold Jc4;have:=Jjt p i;split<;>simp<;>omega
theorem Kca{i:Nat}(h:p i=true):Jc4 p (i+1)=Jc4 p i++[(i:Int)+1]:=by show _++_=_;rw[if_pos h]
theorem K5s(h:p i=false):Jc4 p (i+1)=Jc4 p i:=by show _++_=_;rw[h,if_neg (by simp),List.append_nil]
def Jas(b:Int)(x:Ent):Bool:=decide (0<x.2.2.1)&&decide (x.2.2.1<b)
def Jdc(b:Int)(x:Ent):Ent:=if Jas b x then(x.1,x.2.1,0,())else x
def Jf2(b:Int)(x:Ent):Bool:= !decide (x.2.1=0)&&(!decide (b<x.2.1)&& !decide (0<x.2.2.1))
def Jqx(b:Int)(x:Ent):Ent:=if Jf2 b x then(x.1,(if 0<x.1.2.2.2.1 then b+x.1.2.2.2.1 else 0),b+x.1.2.2.2.2.1,())else x
def part(f:Ent->Ent)(g:Nat->Ent)(i:Nat):Nat->Ent:=λj=>if j<i then f (g j)else g j
theorem Jo8 f g m i (hi:i<m):Jak (Kb8 (part f g i) i (f (g i))) 0 m=Jak (part f g (i+1)) 0 m:=Jcj m 0 λj _ _=>by unfold Kb8 part;grind
theorem Jjq f g m i (h:f (g i)=g i):Jak (part f g i) 0 m=Jak (part f g (i+1)) 0 m:=Jcj m 0 λj _ _=>by unfold part;grind
def Jtb(x:Ent):Prop:=0<=x.1.2.2.2.1/\x.1.2.2.2.1<=1000/\0<=x.1.2.2.2.2.1/\x.1.2.2.2.2.1<=1000
theorem K29(m:Nat)(hm:m<=12) g (r:Int×Int×Int×Unit) (i:Nat) (hi:i<m):J7_1_step (m:Int) (i:Int) r (Jak (part (Jdc r.2.1) g i) 0 m) (Jc4 (λj=>Jas r.2.1 (g j)) i) (Jpb 0 m)=some (.inl (((i+1:Nat):Int),Jak (part (Jdc r.2.1) g (i+1)) 0 m,Jc4 (λj=>Jas r.2.1 (g j)) (i+1))):=by
 have hg:(Jpb 0 m).getD i 0=(i:Int)+1:=by rw[Jrx m 0 i hi];omega
 have hget:=Jl1 (part (Jdc r.2.1) g i) i m 0 (Nat.zero_le _) (by omega);have hp:part (Jdc r.2.1) g i i=g i:=if_neg (Nat.lt_irrefl i);have hl:=Jjt (λj=>Jas r.2.1 (g j)) i;rw[hp]at hget;unfold J7_1_step;rw[oT,J8d (by rw[Jjf];omega),Int.toNat_natCast,hg,hget,oW];simp only[Option.getD_some];by_cases c1:0<(g i).2.2.1
 ·rw[J8y c1];by_cases c2:(g i).2.2.1<r.2.1;·have hL:Jas r.2.1 (g i)=true:=(by unfold Jas;rw[decide_eq_true c1,decide_eq_true c2];rfl);rw[J8y c2,J8d (by rw[List.length_singleton];omega),Joi _ i _ m 0 (Nat.zero_le _) (by omega)];have:=Jo8 (Jdc r.2.1) g m i hi;rw[show Jdc r.2.1 (g i)=((g i).1,(g i).2.1,0,())from by unfold Jdc;rw[if_pos hL]]at this;rw[this,Kca (p:=λj=>Jas r.2.1 (g j)) hL];rfl
  have hL:Jas r.2.1 (g i)=false:=(by unfold Jas;rw[decide_eq_false c2];simp);rw[J93 c2,Jjq (Jdc r.2.1) g m i (by unfold Jdc;rw[hL,if_neg (by simp)]),K5s (p:=λj=>Jas r.2.1 (g j)) hL];rfl
 have hL:Jas r.2.1 (g i)=false:=by unfold Jas;rw[decide_eq_false c1];simp
 rw[J93 c1,Jjq (Jdc r.2.1) g m i (by unfold Jdc;rw[hL,if_neg (by simp)]),K5s (p:=λj=>Jas r.2.1 (g j)) hL];rfl
theorem part_0 f g (m:Nat):Jak (part f g 0) 0 m=Jak g 0 m:=Jcj m 0 λj _ _=>oJ
theorem Kc8 f g (m:Nat):Jak (part f g m) 0 m=Jak (λj=>f (g j)) 0 m:=Jcj m 0 λj _ h=>oI
theorem tick1(m:Nat)(hm:m<=12) g (r:Int×Int×Int×Unit):J7_1 (m:Int) 0 r (Jak g 0 m) [] (Jpb 0 m)=some (r,Jak (λj=>Jdc r.2.1 (g j)) 0 m,Jc4 (λj=>Jas r.2.1 (g j)) m,Jpb 0 m):=by have:=J8p (step:=λ(s:Int×(List (Int×Ent))×List Int)=>J7_1_step (m:Int) s.1 r s.2.1 s.2.2 (Jpb 0 m)) (λi (_:Unit)=>((i:Int),Jak (part (Jdc r.2.1) g i) 0 m,Jc4 (λj=>Jas r.2.1 (g j)) i)) (λ_ _=>()) (λ_=>(r,Jak (part (Jdc r.2.1) g m) 0 m,Jc4 (λj=>Jas r.2.1 (g j)) m,Jpb 0 m)) m (λ_ _=>True) (λi w hi _=>⟨K29 m hm g r i hi,trivial⟩) (λw _=>by unfold J7_1_step;rw[oF]) m 0 () (by omega) trivial;rw[Kc8]at this;exact this
theorem K2b(m:Nat)(hm:m<=12) g (hg0:∀j,Jtb (g j)) (r:Int×Int×Int×Unit) (hr:0<=r.2.1/\r.2.1<=100000) x4 (i:Nat) (hi:i<m):J7_2_step (m:Int) (i:Int) r (Jak (part (Jqx r.2.1) g i) 0 m) x4 (Jc4 (λj=>Jf2 r.2.1 (g j)) i) (Jpb 0 m)=some (.inl (((i+1:Nat):Int),Jak (part (Jqx r.2.1) g (i+1)) 0 m,Jc4 (λj=>Jf2 r.2.1 (g j)) (i+1))):=by
 have hg:(Jpb 0 m).getD i 0=(i:Int)+1:=by rw[Jrx m 0 i hi];omega
 have hget:=Jl1 (part (Jqx r.2.1) g i) i m 0 (Nat.zero_le _) (by omega);have hp:part (Jqx r.2.1) g i i=g i:=if_neg (Nat.lt_irrefl i);have hl:=Jjt (λj=>Jf2 r.2.1 (g j)) i;obtain⟨o1,o2,o3,o4⟩:=hg0 i;rw[hp]at hget;have no:Jf2 r.2.1 (g i)=false->some (.inl (w64 ((i:Int)+1),Jak (part (Jqx r.2.1) g i) 0 m,Jc4 (λj=>Jf2 r.2.1 (g j)) i))=(some (.inl (((i+1:Nat):Int),Jak (part (Jqx r.2.1) g (i+1)) 0 m,Jc4 (λj=>Jf2 r.2.1 (g j)) (i+1))):Option ((Int×List (Int×Ent)×List Int)⊕((Int×Int×Int×Unit)×List (Int×Ent)×List Int×List Int))):=λhL=>by rw[Jjq (Jqx r.2.1) g m i (by unfold Jqx;rw[hL,if_neg (by simp)]),K5s (p:=λj=>Jf2 r.2.1 (g j)) hL,oW];rfl
 unfold J7_2_step;rw[oT,J8d (by rw[Jjf];omega),Int.toNat_natCast,hg,hget];simp only[Option.getD_some];by_cases c1:(g i).2.1=0;·rw[J8y c1];exact no (by unfold Jf2;rw[decide_eq_true c1];rfl)
 rw[J93 c1];by_cases c2:r.2.1<(g i).2.1;·rw[J8y c2];exact no (by unfold Jf2;rw[decide_eq_true c2];simp)
 rw[J93 c2];by_cases c3:0<(g i).2.2.1;·rw[J8y c3];exact no (by unfold Jf2;rw[decide_eq_true c3];simp)
 rw[J93 c3];have hL:Jf2 r.2.1 (g i)=true:=by unfold Jf2;rw[decide_eq_false c1,decide_eq_false c2,decide_eq_false c3];rfl
 have hs:=Jo8 (Jqx r.2.1) g m i hi;rw[Kca (p:=λj=>Jf2 r.2.1 (g j)) hL,<-hs,show Jqx r.2.1 (g i)=((g i).1,(if 0<(g i).1.2.2.2.1 then r.2.1+(g i).1.2.2.2.1 else 0),r.2.1+(g i).1.2.2.2.2.1,())from by unfold Jqx;rw[if_pos hL]];by_cases c4:0<(g i).1.2.2.2.1;·rw[J8y c4,J8d (by rw[List.length_singleton];omega),Joi _ i _ m 0 (Nat.zero_le _) (by omega),oX ((i:Int)+1),oX (r.2.1+(g i).1.2.2.2.1),oW,if_pos c4];rfl
 rw[J93 c4,J8d (by rw[List.length_singleton];omega),Joi _ i _ m 0 (Nat.zero_le _) (by omega),oX ((i:Int)+1),oX (r.2.1+(g i).1.2.2.2.2.1),if_neg c4];rfl
theorem tick2(m:Nat)(hm:m<=12) g (hg0:∀j,Jtb (g j)) (r:Int×Int×Int×Unit) (hr:0<=r.2.1/\r.2.1<=100000) x4:J7_2 (m:Int) 0 r (Jak g 0 m) x4 [] (Jpb 0 m)=some (r,Jak (λj=>Jqx r.2.1 (g j)) 0 m,x4,Jc4 (λj=>Jf2 r.2.1 (g j)) m):=by have:=J8p (step:=λ(s:Int×(List (Int×Ent))×List Int)=>J7_2_step (m:Int) s.1 r s.2.1 x4 s.2.2 (Jpb 0 m)) (λi (_:Unit)=>((i:Int),Jak (part (Jqx r.2.1) g i) 0 m,Jc4 (λj=>Jf2 r.2.1 (g j)) i)) (λ_ _=>()) (λ_=>(r,Jak (part (Jqx r.2.1) g m) 0 m,x4,Jc4 (λj=>Jf2 r.2.1 (g j)) m)) m (λ_ _=>True) (λi w hi _=>⟨K2b m hm g hg0 r hr x4 i hi,trivial⟩) (λw _=>by unfold J7_2_step;rw[oF]) m 0 () (by omega) trivial;rw[Kc8]at this;exact this
theorem K9o(h:Jtb x):Jtb (Jdc b x):=by unfold Jdc;split<;>exact h
theorem K7b(m:Nat)(hm:m<=12) g (hg0:∀j,Jtb (g j)) a b l (hb:0<=b/\b<100000) (hl:0<=l/\l<=100000):J7 (a,b,l,()) (Jak g 0 m)=some ((a,b+1,l+(Jc4 (λj=>Jas (b+1) (g j)) m).length,()),Jak (λj=>Jqx (b+1) (Jdc (b+1) (g j))) 0 m,Jc4 (λj=>Jas (b+1) (g j)) m,Jc4 (λj=>Jf2 (b+1) (Jdc (b+1) (g j))) m):=by have hpl:=Jjt (λj=>Jas (b+1) (g j)) m;unfold J7;rw[show J36 (Jak g 0 m)=some ()from rfl,J8a,K20 g m hm,J8a,Jjf];dsimp only;rw[oW,tick1 m hm g (a,b+1,l,()),J8a];dsimp only;rw[Jjf,oW,tick2 m hm (λj=>Jdc (b+1) (g j)) (λj=>K9o (hg0 j)) (a,b+1,l+(Jc4 (λj=>Jas (b+1) (g j)) m).length,()) ⟨by show 0<=b+1;omega,by show b+1<=100000;omega⟩];rfl
def Qm:Qry:=(2,[115,47],[115,48],1,3,())
theorem cmD(n:Nat)(hn:n<=4)(S:List Val)(h:Hdr) nx (hk:w64 ((0:Int)+1)=h.1) (h1:1<=h.1) (h2:h.1<=16) N W B R:J3_2 0 (J8o n) (n:Int) 0 (J8o n,J8r n,Ja5 n,N,W,B,R,()) h () [] nx (Jox h)=some (0,(J8o n,J8r n,Ja5 n,N,W,B,R,()),h,(),sgJ h (List.range n),nx):=by
 have e1:(J8o n).length=n:=Jb1 _ _;have e2:(J8r n).length=n:=Jb1 _ _;have e3:(Ja5 n).length=n:=Jb1 _ _;have:=J8p (step:=λ(t:Int×List J9o)=>J3_2_step 0 (J8o n) (n:Int) t.1 (J8o n,J8r n,Ja5 n,N,W,B,R,()) h () t.2 nx (Jox h)) (λi (_:Unit)=>((i:Int),sgJ h (List.range i))) (λ_ _=>()) (λ_=>(0,(J8o n,J8r n,Ja5 n,N,W,B,R,()),h,(),sgJ h (List.range n),nx)) n (λ_ _=>True) (λi w hi _=>⟨?_,trivial⟩) (λw _=> ?_) n 0 () (by omega) trivial;·exact this
 ·unfold J3_2_step;have g1:(J8o n).getD i (List.replicate 32 (0:UInt8))=Jcf i:=Ja8 _ _ hi;have g2:(J8r n).getD i []=Jbu (Jcf i):=Ja8 _ _ hi;have g3:(Ja5 n).getD i []=nm i:=Ja8 _ _ hi;dsimp only;rw[oT,oN,oN,oN,Int.toNat_natCast,g1,g2,g3,hk,Kce _ (by rw[Jb4];omega) (Jfs _) _ _ (Jhb i) _ h1 h2 (by rw[Jkb];omega),J8a,J8d (by rw[Jhc,List.length_range];simp;omega),oW,Jmg];rfl
 unfold J3_2_step;rw[oF]
def FstB(n:Nat)(S:List Val)(b:Block):Prop:=b.1=hdS S [] 1/\b.2.1=sgJ (hdS S [] 1) (List.range n)/\b.2.2.1=S/\b.2.2.2.1=S
theorem Kdi(n:Nat)(hn:n<=4) S (hS:Jtg S):∃b,J3 1 (J8o n,J8r n,Ja5 n,[],S,[],[],())=some (1,(J8o n,J8r n,Ja5 n,[],S,[b],[[]],()))/\FstB n S b:=by
 have e1:(J8o n).length=n:=Jb1 _ _;have hSl:=hS.1;have hnil:([]:List Val)++S=S:=rfl;have hr:=K4k (S:=S) (B:=[]) (t:=1) (by simp) (by omega) (by omega);have hh:=Jpz S [] 1;have hd1:=Ke4 S [] 1;have w1:w64 ((([]:List Block).length:Int)+1)=1:=rfl;have hh0:((1:Int),(1:Int),K6c,setH S,setH S,List.replicate 32 (0:UInt8),())=hdS S [] 1:=by unfold hdS;rfl
 unfold J3;rw[J93 (by simp),oF,oF,J93 (by simp),J8d (by simp;omega),Jsy,J8a,hnil,Jdz S hS,J8a,J8a,w1,hh0,Jeh _ hh,J8a,<-Jvs hr,e1];rw[show(([]:List Block).length:Int)=0 from rfl,cmD n hn S _ S (by rw[hd1];rfl) (by rw[hd1];simp) (by rw[hd1];simp),J8a];dsimp only;exact⟨_,rfl,rfl,rfl,rfl,rfl⟩
theorem Kah(n:Nat)(hn:n<=4) S (hS:Jtg S) (T:Int):∃b,J46 T 1 3 () (J8o n) (J8r n) (Ja5 n) S=some (1,(),(J8o n,J8r n,Ja5 n,[],S,[b],[[]],()),0,0,(),([b.1],b.2.2.2.1,T,false,()),(0,0,[(Qm,1,0,true,())],()),[],[],0,0,0,(false,()),[])/\FstB n S b:=by obtain⟨b,hb,hf⟩:=Kdi n hn S hS;unfold J46;rw[hb,J8a];unfold J5n Jq Jq_1;rw[J96 (r:=(0,(0,0,[],()),((2:Int),([115,47]:List UInt8),([115,48]:List UInt8),1,3,()))) rfl];exact⟨b,rfl,hf⟩
noncomputable def gM:Nat->Ent:=λ_=>(Qm,1,0,())
section
variable {n : Nat} {p : Nat → Int} {f : Nat → Int}
theorem Jvx(hp:Jkj p)(h1:1<=n)(hn:n<=4)(hf:f 0=1)(T:Int)(hT:0<=T/\T<=1073741824):J7d (J8n p n) (J8o n) T 1 3=some (0,1,1,(),(),J8o n,J8r n,J8n p n,stR [] [[]],BL n p f [[]],(),([hL n p f [[]] 0],J8n p n,T,false,()),(1,0,0,()),Jak gM 0 1,(),[],([],()),(0,0,[],false,()),0,0,0,false,(),[],[]):=by
 have hr:Jmn 1 f:=by refine⟨λi hi=> ?_,λi hi=>by omega⟩;obtain rfl:i=0:=(by omega);omega
 have hl:J78 (hL n p f [[]] 0) (J8n p n) T=some (.inr (0,([hL n p f [[]] 0],J8n p n,T,false,()))):=Keh (r:=rR [[]]) (m:=1) h1 hn (λ_=>hp) (by omega) hr hT (by omega);have e:J6y (hL n p f [[]] 0) (J8n p n) T 1 3=some (0,(),([hL n p f [[]] 0],J8n p n,T,false,()),(1,0,0,()),Jak gM 0 1,(),[],([],()),(0,0,[],false,()),0,0,0,false,(),[]):=by unfold J6y;rw[hl];rfl
 unfold J7d;rw[K9c p hp h1 hn,J8a];have hc:=Kdg (f:=f) hp h1 hn (by rw[hf];omega);rw[hf]at hc;rw[hc,J8a];rw[show J2p 1 () (J8o n) (J8r n) (J8n p n) (stR [] [[]]) (BL n p f [[]])=_ from Kbl hn (by simp) (by simp) _,J8a];rw[show J6y (gL n p f [[]] 0).1 (gL n p f [[]] 0).2.2.2.1 T 1 3=_ from e];rfl
end
theorem begunH(ps:List Int)(hps:ps.length<=140737488351232) f (hf:f 0=1) (T:Int) (hT:0<=T/\T<=1073741824):∃b,J6e ps T 1 3=some (1,1,(),(),J8o (Jp5 ps),J8r (Jp5 ps),Jxx ps,stR [] [[]],BL (Jp5 ps) (pw ps) f [[]],(),([hL (Jp5 ps) (pw ps) f [[]] 0],Jxx ps,T,false,()),(1,0,0,()),Jak gM 0 1,(),[],([],()),(0,0,[],false,()),0,0,0,false,(),[],[],(1,(),(J8o (Jp5 ps),J8r (Jp5 ps),Ja5 (Jp5 ps),[],Jxx ps,[b],[[]],()),0,0,(),([b.1],b.2.2.2.1,T,false,()),(0,0,[(Qm,1,0,true,())],()),[],[],0,0,0,(false,()),[]))/\FstB (Jp5 ps) (Jxx ps) b:=by obtain⟨h1,hn⟩:=Kw ps;obtain⟨u,hu,hz⟩:=Kah (Jp5 ps) hn (Jxx ps) (Jmc _ _ hn) T;have hw:=Jvx (Kev ps) h1 hn hf T hT;unfold J6e;rw[Jyp ps (by omega),J8a];rw[show Jxx ps=J8n (pw ps) (Jp5 ps)from rfl]at hu⊢;rw[hw];rw[hu];exact⟨u,rfl,hz⟩
def SgT(l:List J9o):Prop:=l.length<=16/\∀s∈l,s.1.length<=100/\Jqw s.2.1
def Kbc(b:Block):Prop:=Jaw b.1/\SgT b.2.1/\K2h b.2.2.1/\K2h b.2.2.2.1
def ChnT(n:Nat)(c:Chn):Prop:=c.1=J8o n/\c.2.1=J8r n/\c.2.2.1=Ja5 n/\Jfh c.2.2.2.1/\K2h c.2.2.2.2.1/\c.2.2.2.2.2.1.length<=16/\c.2.2.2.2.2.2.1.length=c.2.2.2.2.2.1.length/\(∀b∈c.2.2.2.2.2.1,Kbc b)/\∀r∈c.2.2.2.2.2.2.1,Jfh r
theorem Jl7(h:K2h l):Jtg l:=⟨by have:=h.1;omega,λv hv=>⟨by have:=(h.2 v hv).1;omega,(h.2 v hv).2.1⟩⟩
theorem K6d(h:Jfh l):Jyh l:=⟨by have:=h.1;omega,λp hp=>⟨by have:=(h.2 p hp).1;omega,by have:=(h.2 p hp).2;omega⟩⟩
theorem Kb0(h:Jfh l):Ok (J2n l) (λr=>r.length=32):=by have k:=K6d h;have hl:=h.1;unfold J2n;rw[Jqg l k,J8a,Jk0 _ (by rw[J9i];omega) (Jdd k),J8a,K62 _ _ (Jax _)];exact Jkh.2 (J9z _)
theorem Kfr(h:Hdr)(h1:1<=h.1)(h2:h.1<=16)(hn:n<=4):SgT (sgJ h (List.range n)):=by
 refine⟨by rw[Jhc,List.length_range];omega,λs hs=> ?_⟩;obtain⟨i,hi,rfl⟩:=List.mem_map.1 hs;have:i<4:=by have:=List.mem_range.1 hi;omega
 refine⟨?_,K6p h h1 h2 _ _⟩;show(nm i).length<=100;rcases i with _|_|_|_|i<;>first|decide|omega
theorem cmE(k n:Nat)(hn:n<=4)(h:Hdr)(hk:w64 ((k:Int)+1)=h.1)(h1:1<=h.1)(h2:h.1<=16) N W nx B R X:J3_1 k (J8o n) (n:Int) 0 (J8o n,J8r n,Ja5 n,N,W,B,R,()) h X () [] nx (Jox h)=some ((k:Int),(J8o n,J8r n,Ja5 n,N,W,B,R,()),h,X,(),sgJ h (List.range n),nx):=by
 have e1:(J8o n).length=n:=Jb1 _ _;have e2:(J8r n).length=n:=Jb1 _ _;have e3:(Ja5 n).length=n:=Jb1 _ _;have:=J8p (step:=λ(t:Int×List J9o)=>J3_1_step k (J8o n) (n:Int) t.1 (J8o n,J8r n,Ja5 n,N,W,B,R,()) h X () t.2 nx (Jox h)) (λi (_:Unit)=>((i:Int),sgJ h (List.range i))) (λ_ _=>()) (λ_=>((k:Int),(J8o n,J8r n,Ja5 n,N,W,B,R,()),h,X,(),sgJ h (List.range n),nx)) n (λ_ _=>True) (λi w hi _=>⟨?_,trivial⟩) (λw _=> ?_) n 0 () (by omega) trivial;·exact this
 ·unfold J3_1_step;have g1:(J8o n).getD i (List.replicate 32 (0:UInt8))=Jcf i:=Ja8 _ _ hi;have g2:(J8r n).getD i []=Jbu (Jcf i):=Ja8 _ _ hi;have g3:(Ja5 n).getD i []=nm i:=Ja8 _ _ hi;dsimp only;rw[oT,oN,oN,oN,Int.toNat_natCast,g1,g2,g3,hk,Kce _ (by rw[Jb4];omega) (Jfs _) _ _ (Jhb i) _ h1 h2 (by rw[Jkb];omega),J8a,J8d (by rw[Jhc,List.length_range];simp;omega),oW,Jmg];rfl
 unfold J3_1_step;rw[oF]
theorem K3h(hn:n<=4)(h:ChnT n c)(h0:1<=c.2.2.2.2.2.1.length)(t:Int):Ok (J3 t c) (λr=>ChnT n r.2/\c.2.2.2.2.2.1.length<=r.2.2.2.2.2.2.1.length):=by
 obtain⟨c1,c2,c3,N,S,B,R,_⟩:=c;obtain⟨rfl,rfl,rfl,hN,hS,hB,hR,hb,hr⟩:=h;dsimp only at*
 have hl:=hS.1;have hc:ChnT n (J8o n,J8r n,Ja5 n,N,S,B,R,()):=⟨rfl,rfl,rfl,hN,hS,hB,hR,hb,hr⟩;have hm:∀d:Block,B.getD (w64 ((B.length:Int) - 1)).toNat d∈B:=λd=>by rw[oW,List.getD_eq_getElem?_getD,List.getElem?_eq_getElem (by omega)];exact List.getElem_mem ..
 unfold J3;simp only[wp,List.nil_append,List.length_nil];have e:=oX ((B.length:Int) - 1);refine⟨λ_=>⟨hc,by omega⟩,λq0=>⟨λ_=>⟨hc,by omega⟩,λq1=>⟨λ_=>⟨hc,by omega⟩,λq2=>⟨λ_=>⟨⟨by omega,by omega⟩,λ_=>⟨hc,by omega⟩,λq3=>⟨by omega,(Kb0 hN).imp λrt hrt=> ?_⟩⟩,λq3=>by omega⟩⟩⟩⟩;have hlast:=hb _ (hm ((0,0,(List.replicate 32 (0:UInt8)),(List.replicate 32 (0:UInt8)),(List.replicate 32 (0:UInt8)),(List.replicate 32 (0:UInt8)),()),([]:List J9o),([]:List Val),([]:List Val),()));generalize B.getD _ _=b0 at hlast⊢;refine Ok.eq (Jeh _ hlast.1) (Ok.eq (Jdz _ (Jl7 hlast.2.2.2)) (Ok.eq (Jdz _ (Jl7 hS)) ?_));have e1:w64 ((B.length:Int)+1)=(B.length:Int)+1:=oW;have e2:(J8o n).length=n:=Jb1 _ _;rw[e1,e2];obtain⟨x,hx⟩:∃x:Hdr,x=((B.length:Int)+1,t,rt,setH b0.2.2.2.1,setH S,sha (72::Jgo b0.1),()):=⟨_,rfl⟩;rw[<-hx];have hh:Jaw x:=by rw[hx];exact⟨hrt,Jal _,Jal _,J9z _⟩
 have x1:x.1=(B.length:Int)+1:=by rw[hx]
 have x2:Jap x=true:=by rw[Jb5,x1,hx];dsimp only;omega
 refine Ok.eq (Jeh _ hh) ?_;rw[<-Jvs x2];refine Ok.eq (cmE B.length n hn x (by omega) (by omega) (by omega) N S S B R _) ?_;have hg:=Kfr x (by omega) (by omega) hn;simp only[List.length_cons,List.length_nil];refine⟨by omega,by omega,by omega,by omega,⟨rfl,rfl,rfl,hN,hS,by simp;omega,by simp;omega,λb hx=> ?_,λr hx=> ?_⟩,by simp⟩
 ·rcases List.mem_append.1 hx with hx|hx;·exact hb b hx
  rw[List.mem_singleton.1 hx];exact⟨hh,hg,hlast.2.2.2,hS⟩
 rcases List.mem_append.1 hx with hx|hx;·exact hr r hx
 rw[List.mem_singleton.1 hx];exact hN
theorem Jqk(h:l.length<=1000):Ok (J0m l) (λ_=>True):=by
 simp only[J0m,wp];refine(Jee (Q:=λ_=>True) (λi:Int=>0<=i/\i<=l.length) (λi=>l.length - i) (by simp) λi hi=> ?_).imp λr _=> ?_;·have e1:=oX (i+1);have e2:=oX (i - 1);simp only[J0m_1_step,wp];repeat' first|trivial|omega|intro _|apply And.intro
 cases r<;>simp[wp]
theorem K0a(h:l.length<=1000):Ok (J0o l) (λ_=>True):=by simp only[J0o,wp];refine Jee (Q:=λ_=>True) (λi:Int×Int=>0<=i.2/\i.2<=l.length) (λi=>l.length - i.2) (by simp) λi hi=> ?_;simp only[J0o_1_step,wp];grind [J9n]
theorem Jqn(hl:l.length<=1000)(hh:Jaw h)(hs:SgT s):Ok (Je l h s) (λ_=>True):=by
 have hsl:=hs.1;simp only[Je,Je_3,wp,Jeh h hh,J8a];refine(Jee (Q:=λr:Int⊕(List Val×List J9o×Int×Hdr×List UInt8)=>match r with| .inl _=>True| .inr o=>o.1=l/\o.2.1=s/\o.2.2.2.1=h/\o.2.2.2.2=sha (72::Jgo h)) (λi:Int=>0<=i/\i<=s.length) (λi=>s.length - i) (by simp) λi hi=> ?_).imp λr hr=> ?_;·have e1:=oX (i+1);have e2:=oX (i - 1);simp only[Je_1_step,wp,e1,e2];repeat' first|trivial|omega|intro _|apply And.intro
 cases r with|inl r=>exact Jkh.2 trivial|inr o=>obtain⟨r1,r2,r3,r4⟩:=hr;simp only[wp,r1,r2,r3,r4];refine Jee (Q:=λ_=>True) (λi:List Val×Int×List J9o×Int×Int×Hdr×List UInt8=>i.1=l/\i.2.2.1=s/\i.2.2.2.1=s.length/\0<=i.2.2.2.2.1/\i.2.2.2.2.1<=s.length/\i.2.2.2.2.2.1=h/\i.2.2.2.2.2.2=sha (72::Jgo h)) (λi=>s.length - i.2.2.2.2.1) ⟨rfl,rfl,rfl,by simp,by simp,rfl,rfl⟩ λi hi=> ?_;obtain⟨i1,i2,i3,i4,i5,i6,i7⟩:=hi;simp only[Je_3_step,Je_2,wp,i1,i2,i3,i6,i7];refine⟨λc=>⟨by omega, ?_⟩,λ_=>trivial⟩;have hv:=hs.2 _ (show s.getD i.2.2.2.2.1.toNat (([]:List UInt8),((0:Int),(([]:List (List UInt8)),([]:List (List UInt8)),()),([]:List (List UInt8)),()),())∈s by rw[List.getD_eq_getElem?_getD,List.getElem?_eq_getElem (by omega)];exact List.getElem_mem ..);refine(Jee (Q:=λo:List Val×Int×List J9o×Int×Int×Hdr×List UInt8=>o.1=l/\o.2.2.1=s/\o.2.2.2.1=s.length/\o.2.2.2.2.1=i.2.2.2.2.1/\o.2.2.2.2.2.1=h/\o.2.2.2.2.2.2=sha (72::Jgo h)) (λj:Int×Int=>0<=j.2/\j.2<=l.length) (λj=>l.length - j.2) (by simp) λj hj=> ?_).imp λo ho=>(by grind [J9n]);simp only[Je_2_step,wp];refine⟨λc=>⟨by omega,λ_=>Ok.eq (Kez _ _ _ (by rw[J9z];omega) _ hv.2) (by grind [J9n]),by grind [J9n]⟩,λ_=>by simp⟩
theorem Kbb(hb:Kbc b):Ok (J5y b) (λ_=>True):=by have h1:=hb.2.2.1.1;have h2:=hb.2.2.2.1;simp only[J5y,J5g,wp,Jdz _ (Jl7 hb.2.2.1),Jdz _ (Jl7 hb.2.2.2)];have a:=Jqk (l:=b.2.2.1) (by omega);have c:=Jqk (l:=b.2.2.2.1) (by omega);repeat' first|trivial|intro _|apply And.intro|refine a.imp λ_ _=> ?_|refine c.imp λ_ _=> ?_
def CliT(c:Cli):Prop:=1<=c.1.length/\c.1.length<=6/\K2h c.2.1
theorem Kco(hb:Kbc b)(hc:CliT c)(t:Int):Ok (J1q b t c) (λr=>CliT r.2):=by obtain⟨c1,c2,c3⟩:=hc;have hc:CliT c:=⟨c1,c2,c3⟩;have h1:=hb.2.2.1.1;have h2:=c3.1;have s1:=Jqn (l:=b.2.2.1) (by omega) hb.1 hb.2.1;have s2:=Jqn (l:=c.2.1) (by omega) hb.1 hb.2.1;have t1:=K0a (l:=b.2.2.1) (by omega);have t2:=K0a (l:=c.2.1) (by omega);have e:=oX ((c.1.length:Int) - 1);unfold J1q J4k;simp only[wp,List.length_append,List.length_cons,List.length_nil];repeat' first|exact hc|omega|intro _|with_reducible apply And.intro|refine(Kbb hb).imp λ_ _=> ?_|refine s1.imp λ_ _=> ?_|refine t1.imp λ_ _=> ?_|refine s2.imp λ_ _=> ?_|refine t2.imp λ_ _=> ?_|exact⟨by simp,by simp;omega,hb.2.2.2⟩|exact⟨by simp[J9v];omega,by simp[J9v];omega,hb.2.2.2⟩
abbrev Kbg:=Qry×Int×Int×Bool×Unit
abbrev RReg:=Int×Int×List Kbg×Unit
def QT(q:Qry):Prop:=q.2.1.length<=100/\q.2.2.1.length<=100
def EnT(l:List Kbg):Prop:=∀e∈l,QT e.1
abbrev zRe:Kbg:=((0,([]:List UInt8),([]:List UInt8),0,0,()),0,0,false,())
theorem Jwl(h:EnT l)(i:Nat):QT (l.getD i zRe).1:=by rw[List.getD_eq_getElem?_getD];cases e:l[i]? with|none=>exact⟨by simp,by simp⟩|some x=>exact h x (List.mem_of_getElem? e)
theorem Jra(h:EnT l)(i:Nat)(hx:QT x.1):EnT (l.set i x):=λe he=>by
 rcases List.mem_or_eq_of_mem_set he with he|rfl;·exact h e he
 exact hx
def RgT(b:Nat)(r:RReg):Prop:=r.2.2.1.length<=b/\EnT r.2.2.1
section
variable {b : Nat} {r : RReg}
theorem Jmj(hb:b<=1000)(h:RgT b r)(i:Int):Ok (J0n i r) (λx=>x=true->1<=i/\i<=r.2.2.1.length):=by have hl:=h.1;have e1:1<=i->i<=r.2.2.1.length->w64 (i - 1)=i - 1:=λ_ _=>oW;simp only[J0n,wp];repeat' first|omega|contradiction|intro _|with_reducible apply And.intro
theorem K5f(hb:b<=1000)(h:RgT b r)(i:Int):Ok (J1r i r) (λx=>x=true->1<=i/\i<=r.2.2.1.length):=by have hl:=h.1;have e1:1<=i->i<=r.2.2.1.length->w64 (i - 1)=i - 1:=λ_ _=>oW;simp only[J1r,wp];exact(Jmj hb h i).imp λx hx=>by repeat' first|omega|contradiction|(have:=hx ‹_›;omega)|intro _|with_reducible apply And.intro
theorem Kad(hb:b<=1000)(h:RgT b r)(i:Int):Ok (J2w i r) (λx=>RgT b x.2):=by have hl:=h.1;have e1:1<=i->i<=r.2.2.1.length->w64 (i - 1)=i - 1:=λ_ _=>oW;simp only[J2w,wp,List.nil_append,List.length_nil];exact(Jmj hb h i).imp λx hx=>⟨λ_=>h,λc=>⟨by omega,by have:=hx c;have:=e1 this.1 this.2;omega,by show(List.set _ _ _).length<=b;rw[List.length_set];exact hl,Jra h.2 _ ⟨by simp,by simp⟩⟩⟩
theorem Kao(hb:b<=1000)(h:RgT b r)(i:Int)(hi:1<=i/\i<=r.2.2.1.length):Ok (J2x i r) (λx=>RgT b (x.1,x.2.1,x.2.2.2,())):=by have hl:=h.1;have e1:=oX (i - 1);simp only[J2x,wp,List.nil_append,List.length_nil];exact⟨by omega,by omega,by show(List.set _ _ _).length<=b;rw[List.length_set];exact hl,Jra h.2 _ (Jwl h.2 _)⟩
theorem Kf0(hb:b<=1000)(h:RgT b r)(hq:QT q):Ok (Jq q r) (λo=>RgT (b+1) o.2.2):=by
 have hl:=h.1;have h':RgT (b+1) r:=⟨by omega,h.2⟩;have e:Ok (J4x q) (λ_=>True):=by simp only[J4x,wp];repeat' first|trivial|intro _|apply And.intro
 simp only[Jq,wp,List.nil_append,List.length_nil,List.length_cons];refine e.imp λ_ _=>⟨λ_=>h',λ_=> ?_⟩;refine(Jee (Q:=λo=>o.2.1=r/\o.2.2=q) (λs:Int×Int=>0<=s.2/\s.2<=r.2.2.1.length) (λs=>r.2.2.1.length - s.2) (by simp) λs h=> ?_).imp λo ho=> ?_;·simp only[Jq_1_step,wp];grind [J9n]
 obtain⟨o1,o2⟩:=ho;simp only[o1,o2];refine⟨λ_=>h',λ_=>⟨by omega,by omega,by show(_++_:List Kbg).length<=_;simp;omega,λe he=> ?_⟩⟩;rcases List.mem_append.1 he with he|he;·exact h.2 e he
 rw[List.mem_singleton.1 he];exact hq
theorem Kg0(hb:b<=1000)(h:RgT b r):Ok (Jg r) (λx=>RgT b (x.1,x.2.1,x.2.2.2.1,())):=by
 have hl:=h.1;simp only[Jg,wp,List.nil_append,List.length_nil];refine⟨by omega,(Jee (Q:=λo:Int×Int×Unit×List Kbg×List Int=>o.2.2.2.1.length=r.2.2.1.length/\EnT o.2.2.2.1/\o.2.2.2.2.length<=1000) (λs:Int×List Kbg×List Int=>0<=s.1/\s.1<=r.2.2.1.length/\s.2.1.length=r.2.2.1.length/\EnT s.2.1/\s.2.2.length<=s.1) (λs=>r.2.2.1.length - s.1) ⟨by simp,by simp,rfl,h.2,by simp⟩ λs hs=> ?_).imp λo ho=> ?_⟩;·have g:=Jwl hs.2.2.2.1;have st:=λ(i:Nat) (x:Kbg)=>Jra (x:=x) hs.2.2.2.1 i;have e1:=oX (s.1+1);simp only[Jg_1_step,wp,List.length_append,List.length_cons,List.length_nil,List.length_set,e1];repeat' first|omega|exact hs.2.2.2.1|exact st _ _ (g _)|intro _|with_reducible apply And.intro
 refine Jee (λs:Int×List Kbg×List Int=>0<=s.1/\s.1<=o.2.2.2.1.length/\s.2.1.length=o.2.2.2.1.length/\EnT s.2.1/\s.2.2.length<=s.1) (λs=>o.2.2.2.1.length - s.1) ⟨by simp,by simp,rfl,ho.2.1,by simp⟩ λs hs=> ?_;have e1:=oX (s.1+1);simp only[Jg_2_step,wp,List.length_append,List.length_cons,List.length_nil,List.length_set,e1];repeat' first|omega|exact hs.2.2.2.1|exact g _|refine Jra ?_ _ ?_|refine Jwl ?_ _|exact⟨by dsimp only;omega,hs.2.2.2.1⟩|intro _|with_reducible apply And.intro
end
abbrev Um:=List (List UInt8×Int)
def Jvq:Um->Int
 |[]=>0
 |p::r=>p.2+Jvq r
def K2g:Um->Prop
 |[]=>True
 |p::r=>0<=p.2/\K2g r
theorem Joy x:∀{m:Um},K2g m->0<=(J94 x m).getD 0/\(J94 x m).getD 0<=Jvq m
 |[],_=>by simp[J94,Jvq]
 |p::r,h=>by
  have h1:=Joy x h.2;have:=h.1;unfold J94 Jvq;by_cases e:x=p.1;·rw[decide_eq_true e];simp;omega
  rw[decide_eq_false e,cond_false];omega
theorem Jt2 x (y:Int) (hy:0<=y):∀{m:Um},K2g m->K2g (Jac x y m)/\Jvq (Jac x y m)=Jvq m - (J94 x m).getD 0+y
 |[],_=>by simp[Jac,K2g,Jvq,J94,hy]
 |p::r,h=>by
  have h1:=Jt2 x y hy h.2;unfold Jac J94;by_cases e:x=p.1;·rw[decide_eq_true e,cond_true,cond_true];simp only[Option.getD_some,Jvq];exact⟨⟨hy,h.2⟩,by omega⟩
  rw[decide_eq_false e,cond_false,cond_false];simp only[Jvq];exact⟨⟨h.1,h1.1⟩,by have:=h1.2;omega⟩
theorem Jya x:∀{m:Um},K2g m->K2g (J9s (Ty.beq .str) x m)/\Jvq (J9s (Ty.beq .str) x m)=Jvq m - (J94 x m).getD 0
 |[],_=>by simp[J9s,K2g,J94]
 |p::r,h=>by
  have h1:=Jya x h.2;unfold J9s J94;have hb:Ty.beq .str x p.1=decide (x=p.1):=rfl;rw[hb];by_cases e:x=p.1;·rw[decide_eq_true e,cond_true,cond_true];simp only[Option.getD_some,Jvq];exact⟨h.2,by omega⟩
  rw[decide_eq_false e,cond_false,cond_false];simp only[Jvq];exact⟨⟨h.1,h1.1⟩,by have:=h1.2;omega⟩
structure Jcc(s p a:Int)(m:Um):Prop where
 s0:0<=s
 p0:0<=p
 top:s+p<=1073741824
 a0:0<=a
 a1:a<=1073741824
 sum:Jvq m=a
 non:K2g m
theorem Jf6{x y:Int}(hx:0<=x)(hx1:x<=1073741824)(hy:0<=y)(hy1:y<=1073741824):0<=x*y/\x*y<=1152921504606846976:=by refine⟨Int.mul_nonneg hx hy, ?_⟩;have:=Int.mul_le_mul hx1 hy1 hy (by omega:(0:Int)<=1073741824);omega
theorem Jhv(hx:0<=x)(hx1:x<=1152921504606846976)(hy:0<=y):0<=Int.tdiv x y/\Int.tdiv x y<=1152921504606846976:=by rw[Int.tdiv_eq_ediv_of_nonneg hx];have h1:=Int.ediv_nonneg hx hy;have h2:=Int.ediv_le_self y hx;omega
theorem K9p(h:Jcc s p a m)(t:Int)(h0:0<=t)(h1:t<=1073741824 - p) b u:J4o t s p a b u m=some (0,t,false)/\Jcc t p a m:=by have p0:=h.p0;unfold J4o;rw[oF,oW,oF];exact⟨rfl,h0,h.p0,by omega,h.a0,h.a1,h.sum,h.non⟩
section
variable {s p a : Int} {m : Um} (h : Jcc s p a m)
include h
theorem K4x x (hk:0<=k) (hn:0<=n) (h1:a+k<=1073741824) (h2:s+p+n<=1073741824):Jcc s (w64 (p+n)) (w64 (a+k)) (Jac x (w64 ((J94 x m).getD 0+k)) m):=by obtain⟨g1,g2⟩:=Joy x h.non;have:=h.s0;have:=h.p0;have e:=h.sum;rw[oW,oW,oW];obtain⟨u1,u2⟩:=Jt2 x ((J94 x m).getD 0+k) (by omega) h.non;exact⟨h.s0,by omega,by omega,by omega,by omega,by omega,u1⟩
theorem Kak x (n:Int) b:Ok (J0u x n s p a (b,()) m) (λr=>Jcc r.2.2.1 r.2.2.2.1 r.2.2.2.2.1 r.2.2.2.2.2.2):=by
 have s0:=h.s0;have p0:=h.p0;have t0:=h.top;have a0:=h.a0;have a1:=h.a1;have e:=oX (s+p);simp only[J0u,J0u_1,wp,e];by_cases c:1<=n/\n<=1073741824;·obtain⟨m1,m2⟩:=Jf6 (by omega) c.2 a0 a1;have e1:=oX (n*a);obtain⟨d1,d2⟩:=Jhv (y:=s+p) m1 m2 (by omega);have e2:=oX (Int.tdiv (n*a) (s+p));have e3:=oX (a+Int.tdiv (n*a) (s+p));have e4:=oX (s+p+n);simp only[e1,e2];repeat' first|exact h|omega|intro _|with_reducible apply And.intro|exact K4x h x (by omega) (by omega) (by omega) (by omega)
 repeat' first|exact h|omega|intro _|with_reducible apply And.intro
theorem K25 x (n:Int) b:Ok (J2v x n s p a (b,()) m) (λr=>Jcc s r.2.2.1 r.2.2.2.1 r.2.2.2.2):=by
 have s0:=h.s0;have p0:=h.p0;have t0:=h.top;have a1:=h.a1;have sm:=h.sum;obtain⟨g1,g2⟩:=Joy x h.non;have e:=oX (s+p);simp only[J2v,wp,e];by_cases c:1<=n/\n<=(J94 x m).getD 0
 ·obtain⟨m1,m2⟩:=Jf6 (x:=n) (y:=s+p) (by omega) (by omega) (by omega) t0;have e1:=oX (n*(s+p));obtain⟨d1,d2⟩:=Jhv (y:=a) m1 m2 (by omega);have e2:=oX (Int.tdiv (n*(s+p)) a);have e3:=oX ((J94 x m).getD 0 - n);have e4:=oX (a - n);obtain⟨u1,u2⟩:=Jt2 x ((J94 x m).getD 0 - n) (by omega) h.non;obtain⟨v1,v2⟩:=Jya x u1;simp only[e1,e2,e3,e4];repeat' first|exact h|omega|intro _|with_reducible apply And.intro
  all_goals have e5:=oX (p - Int.tdiv (n*(s+p)) a)
  ·exact⟨s0,by omega,by omega,by omega,by omega,by omega,v1⟩
  exact⟨s0,by omega,by omega,by omega,by omega,by omega,u1⟩
 repeat' first|exact h|omega|intro _|with_reducible apply And.intro
end
abbrev K7p:=Int×Int×List Pr×Unit
def CsT(l:List K7p):Prop:=l.length<=1000/\∀k∈l,Jfh k.2.2.1
theorem Kdk(h:CsT l)(i:Nat):Jfh (l.getD i ((0:Int),(0:Int),([]:List Pr),())).2.2.1:=by rw[List.getD_eq_getElem?_getD];cases e:l[i]? with|none=>exact⟨by simp,by simp⟩|some x=>exact h.2 x (List.mem_of_getElem? e)
theorem K3c(hc:CsT calls)(hr:Jfh rows)(hL:Jcc s p a m)(hb:b<=1000)(hg:RgT b reg) h mb cli res wh hh:Ok (J01 calls h rows mb () cli reg res wh s p a hh m) (λ(_,rows',_,_,cli',r1,r2,_,res',wh',s',p',a',_,m',es,_)=>Jfh rows'/\cli'=cli/\res'=res/\wh'=wh/\Jcc s' p' a' m'/\RgT b (r1,r2,es,())):=by
 have hl:=hc.1;simp only[J01,wp];refine(Jee (Q:=λo:List K7p×Int×List Pr×Int×Unit×Cli×RReg×List (Int×K7p)×List (Int×Int)×Int×Int×Int×(Bool×Unit)×Um=>Jfh o.2.2.1/\o.2.2.2.2.2.1=cli/\o.2.2.2.2.2.2.1=reg/\o.2.2.2.2.2.2.2.1=res/\o.2.2.2.2.2.2.2.2.1=wh/\Jcc o.2.2.2.2.2.2.2.2.2.1 o.2.2.2.2.2.2.2.2.2.2.1 o.2.2.2.2.2.2.2.2.2.2.2.1 o.2.2.2.2.2.2.2.2.2.2.2.2.2) (λi:Int×Int×List Pr×Int×Int×Bool×Unit=>0<=i.1/\i.1<=calls.length/\Jfh i.2.2.1/\Jcc i.2.2.2.2.1 p a m) (λi=>calls.length - i.1) ⟨by simp,by simp,hr,hL⟩ λi hi=> ?_).imp λo ho=> ?_
 ·obtain⟨i1,i2,i3,i4⟩:=hi;have e1:=oX (i.1+1);have p0:=i4.p0;have t0:=i4.top;have s0:=i4.s0;have e2:=oX (1073741824 - p);have g:=Kdk hc i.1.toNat;have bk:=Jmt (by have:=g.1;omega) g.2;simp only[J01_1_step,wp,e1,e2];repeat' first|trivial|omega|exact i3|exact i4|exact g|intro _|exact⟨i3,rfl,rfl,rfl,rfl,i4⟩|refine bk.imp λu hu=> ?_|with_reducible apply And.intro
  all_goals (rename_i q1 q2;have:=hu q1;exact⟨this.1,i4.p0,by omega,i4.a0,i4.a1,i4.sum,i4.non⟩)
 obtain⟨o1,o2,o3,o4,o5,o6⟩:=ho;simp only[o3];exact(Kg0 hb hg).imp λu hu=>⟨o1,o2,o4,o5,o6,hu⟩
theorem Jor(hl:l.length<=100000):Ok (J0c l) (λr=>r=true->Jfh l):=by
 simp only[J0c,wp];refine(Jee (Q:=λr:Bool⊕List Pr=>match r with| .inl b=>b=false| .inr x=>x=l/\∀y∈l,PrT y) (λi:Int=>0<=i/\i<=l.length/\∀j:Nat,(j:Int)<i->PrT (l.getD j zPr)) (λi=>l.length - i) ⟨by simp,by simp,λj hj=>by omega⟩ λi hi=> ?_).imp λr h=> ?_
 ·obtain⟨h0,h1,h2⟩:=hi;have e1:=oX (i+1);have e2:=oX (i - 1);simp only[J0c_1_step,wp,e1];refine⟨λc=>⟨by omega,Kq.imp λb hb=>⟨λ_=>by trivial,λq=> ?_⟩⟩,λc=>⟨by trivial,λy hy=> ?_⟩⟩
  ·have hp:=hb q;have nx:∀j:Nat,(j:Int)<i+1->PrT (l.getD j zPr):=λj hj=>by
    by_cases e:(j:Int)=i;·obtain rfl:j=i.toNat:=(by omega);exact⟨Nat.le_trans hp.1 (by omega),Nat.le_trans hp.2 (by omega)⟩
    exact h2 j (by omega)
   repeat' first|trivial|omega|exact nx|intro _|with_reducible apply And.intro
  obtain⟨j,hj,rfl⟩:=List.getElem_of_mem hy;have:=h2 j (by omega);rwa[List.getD_eq_getElem?_getD,List.getElem?_eq_getElem hj]at this
 cases r with|inl b=>exact Jkh.2 (by simp[show b=false from h])|inr x=>obtain⟨rfl,h⟩:=h;exact Jkh.2 λc=>⟨by have:=of_decide_eq_true c;omega,h⟩
def PfT(p:Prf):Prop:=p.2.2.1.length<=100000/\∀x∈p.2.2.2.1,x.length<=1000/\∀y∈x,y.length=32
theorem Jv3(n:Int)(hx:x.length<=1000):Ok (J2h n x) (λ_=>True):=by have:=J9k n;simp only[J2h,Jer,J8a];rw[J9x _ _ (by simp;omega) (by simp)];exact Jkh.2 (by trivial)
theorem K05(hp:PfT p) r:Ok (J12 r p) (λb=>b=true->(p.1=0\/0<p.2.2.1.length)/\Jfh p.2.2.1):=by
 have hl:=hp.1;simp only[J12,wp];have t2:Ok (Jb 2 ([]:List (List UInt8))) (λu=>u.length<=1000):=by rw[J9x _ _ (by simp) (by simp)];exact Jkh.2 (by rw[J9z];omega)
 refine⟨λ_=>by simp,λc0=>⟨λ_=>by simp,λc1=>⟨λ_=>by simp,λc2=>(Jor hl).imp λb hb=>⟨λ_=>by simp,λq=>⟨λ_=>by simp,λ_=>⟨λ_=>by simp,λ_=>⟨λz=>⟨λ_=>t2.imp λu hu=>(Jv3 _ hu).imp λ_ _=>λ_=>⟨.inl z,hb q⟩,λ_=>by simp⟩,λz=> ?_⟩⟩⟩⟩⟩⟩⟩;have hr:=hb q;refine(Jee (Q:=λo:Bool⊕Prf=>match o with| .inl b=>b=false| .inr x=>x=p) (λi:Int=>0<=i/\i<=p.2.2.1.length) (λi=>p.2.2.1.length - i) (by simp) λi hi=> ?_).imp λo ho=> ?_
 ·have e1:=oX (i+1);simp only[J12_1_step,wp,e1];refine⟨λc=>⟨by omega, ?_⟩,λ_=>by trivial⟩;have h1:∀d,PrT (p.2.2.1.getD i.toNat d):=λd=>by rw[List.getD_eq_getElem?_getD,List.getElem?_eq_getElem (by omega)];exact hr.2 _ (List.getElem_mem ..)
  have h2:=hp.2 (p.2.2.2.1.getD i.toNat []) (by rw[List.getD_eq_getElem?_getD,List.getElem?_eq_getElem (by omega)];exact List.getElem_mem ..);have h3:=h1 (([]:List UInt8),([]:List UInt8),());have h4:=Jjj (p:=p.2.2.1.getD i.toNat (([]:List UInt8),([]:List UInt8),())) ⟨by have:=h3.1;omega,by have:=h3.2;omega⟩;refine Ok.eq (Jse _ ⟨by have:=h3.1;omega,by have:=h3.2;omega⟩) ⟨by omega, ?_⟩;obtain⟨x,hx,_,h5⟩:=Kch (Jh0 (p.2.2.1.getD i.toNat (([]:List UInt8),([]:List UInt8),()))) (by omega) (w64 (p.2.1+i)) p.1 (by omega) (p.2.2.2.1.getD i.toNat []) h2.2 (by omega);exact Ok.eq hx ⟨λ_=>by trivial,λ_=>(Jv3 _ (by dsimp only;omega)).imp λ_ _=>⟨λ_=>by trivial,λ_=>by omega⟩⟩
 cases o with|inl b=>exact Jkh.2 (by simp[show b=false from ho])|inr x=>obtain rfl:x=p:=ho;exact Jkh.2 λc=>⟨.inr (by have:=of_decide_eq_true c;omega),hr⟩
theorem K92(hp:PfT p) r x:Ok (J68 r x p) (λ_=>True):=by simp only[J68,wp];exact(K05 hp r).imp λb hb=>⟨λ_=>⟨λc=>⟨⟨by omega,by omega⟩,by trivial⟩,λ_=>by trivial⟩,λ_=>by trivial⟩
theorem Jvw(hp:PfT p) r a b:Ok (J0a r a b p) (λ_=>True):=by
 have lp:p.2.2.1.length<=30->Ok (J0a_1 a b p.2.2.1 (p.2.2.1.length:Int) 0 []) (λ_=>True):=λhl=>by refine Jee (λi:Int×List Pr=>0<=i.1/\i.1<=p.2.2.1.length/\i.2.length<=i.1) (λi=>p.2.2.1.length - i.1) (by simp) λi hi=> ?_;have e1:=oX (i.1+1);simp only[J0a_1_step,wp,List.length_append,List.length_cons,List.length_nil];repeat' first|trivial|omega|intro _|with_reducible apply And.intro
 simp only[J0a,wp];refine(K05 hp r).imp λq hq=>⟨λ_=>by trivial,λc=>⟨λ_=>by trivial,λz=> ?_⟩⟩;obtain⟨h1,h2⟩:=hq c;have hl:=h2.1;have e2:=oX ((p.2.2.1.length:Int) - 1);repeat' first|omega|exact lp hl|exact True.intro|intro _|with_reducible apply And.intro
abbrev K0l:=Int×Int×List Pr×Prf×Unit
def RsT(x:K0l):Prop:=x.2.2.1.length<=100000/\PfT x.2.2.2.1
theorem K84(hx:RsT x) q r:Ok (Jw q r x) (λ_=>True):=by
 have hl:=hx.1;have hp:=hx.2;have hpl:=hp.1;have l2:∀m:List Pr,(m.length:Int)=x.2.2.1.length->Ok (Jw_2 m (m.length:Int) 0 x) (λ_=>True):=λm hm=>by refine Jee (Q:=λ_=>True) (λi:Int=>0<=i/\i<=m.length) (λi=>m.length - i) (by simp) λi hi=> ?_;have e1:=oX (i+1);simp only[Jw_2_step,wp,e1];repeat' first|trivial|omega|intro _|with_reducible apply And.intro
 have l1:Ok (Jw_1 q.2.1 x.2.2.2.1.2.2.1 (x.2.2.2.1.2.2.1.length:Int) 0 q r x) (λo=>match o with| .inl _=>True| .inr y=>y.2.2.2=x):=by refine Jee (λi:Int=>0<=i/\i<=x.2.2.2.1.2.2.1.length) (λi=>x.2.2.2.1.2.2.1.length - i) (by simp) λi hi=> ?_;have e1:=oX (i+1);simp only[Jw_1_step,wp,e1];repeat' first|trivial|omega|intro _|with_reducible apply And.intro
 simp only[Jw,wp];refine⟨λ_=>trivial,λ_=>⟨λ_=>trivial,λ_=>(Jor hl).imp λb hb=>⟨λ_=>trivial,λ_=>⟨λ_=>⟨λc=>⟨⟨by omega,by omega⟩,λ_=>(K92 hp _ _).imp λ_ _=>⟨λ_=>trivial,λ_=>trivial⟩,λ_=>trivial⟩,λ_=>l1.imp λo ho=> ?_⟩,λ_=>(Jvw hp _ _ _).imp λu _=>⟨λ_=>trivial,λ_=>⟨λ_=>trivial,λc=>(l2 _ (by omega)).imp λo _=> ?_⟩⟩⟩⟩⟩⟩;·cases o with|inl y=>exact Jkh.2 trivial|inr y=>simp only[wp,ho];refine(Jvw hp _ _ _).imp λu _=>⟨λ_=>trivial,λ_=>⟨λ_=>trivial,λc=>(l2 _ (by omega)).imp λo _=> ?_⟩⟩;cases o<;>exact Jkh.2 trivial
 cases o<;>exact Jkh.2 trivial
abbrev K80:=List K7p×Int×List Pr×Int×Unit×Cli×RReg×List (Int×K7p)×List (Int×Int)×Int×Int×Int×(Bool×Unit)×Um
def Jw1(b:Nat)(o:K80):Prop:=(o.1.length<=8/\∀k∈o.1,Jfh k.2.2.1)/\Jfh o.2.2.1/\CliT o.2.2.2.2.2.1/\RgT b o.2.2.2.2.2.2.1/\Jcc o.2.2.2.2.2.2.2.2.2.1 o.2.2.2.2.2.2.2.2.2.2.1 o.2.2.2.2.2.2.2.2.2.2.2.1 o.2.2.2.2.2.2.2.2.2.2.2.2.2
theorem Kfc(ht:Int)(c:K80)(hc:c.2.2.2.2.2.1.1.length<=1000):Ok (Jz ht c.1 c.2.1 c.2.2.1 c.2.2.2.1 c.2.2.2.2.1 c.2.2.2.2.2.1 c.2.2.2.2.2.2.1 c.2.2.2.2.2.2.2.1 c.2.2.2.2.2.2.2.2.1 c.2.2.2.2.2.2.2.2.2.1 c.2.2.2.2.2.2.2.2.2.2.1 c.2.2.2.2.2.2.2.2.2.2.2.1 c.2.2.2.2.2.2.2.2.2.2.2.2.1 c.2.2.2.2.2.2.2.2.2.2.2.2.2) (λo=>o.2.2=c):=by
 obtain⟨c1,c2,c3,c4,c5,c6,c7,c8,c9,c10,c11,c12,c13,c14⟩:=c;dsimp only at*
 unfold Jz Jz_1;simp only[wp];refine(Jee (Q:=λo=>match o with| .inl o=>(o.2.1,o.2.2.1,o.2.2.2.1,o.2.2.2.2.1,o.2.2.2.2.2.1,o.2.2.2.2.2.2.1,o.2.2.2.2.2.2.2.1,o.2.2.2.2.2.2.2.2.1,o.2.2.2.2.2.2.2.2.2.1,o.2.2.2.2.2.2.2.2.2.2.1,o.2.2.2.2.2.2.2.2.2.2.2.1,o.2.2.2.2.2.2.2.2.2.2.2.2.1,o.2.2.2.2.2.2.2.2.2.2.2.2.2.1,o.2.2.2.2.2.2.2.2.2.2.2.2.2.2.1)=(c1,c2,c3,c4,c5,c6,c7,c8,c9,c10,c11,c12,c13,c14)| .inr o=>(o.1,o.2.1,o.2.2.1,o.2.2.2.1,o.2.2.2.2.1,o.2.2.2.2.2.1,o.2.2.2.2.2.2.1,o.2.2.2.2.2.2.2.1,o.2.2.2.2.2.2.2.2.1,o.2.2.2.2.2.2.2.2.2.1,o.2.2.2.2.2.2.2.2.2.2.1,o.2.2.2.2.2.2.2.2.2.2.2.1,o.2.2.2.2.2.2.2.2.2.2.2.2.1,o.2.2.2.2.2.2.2.2.2.2.2.2.2.1)=(c1,c2,c3,c4,c5,c6,c7,c8,c9,c10,c11,c12,c13,c14)) (λi:Int=>0<=i/\i<=c6.1.length) (λi=>c6.1.length - i) (by simp) λi hi=> ?_).imp λo ho=> ?_;·have e1:=oX (i+1);simp only[Jz_1_step,wp];repeat' first|omega|exact True.intro|intro _|with_reducible apply And.intro
 cases o with|inl o=>exact Jkh.2 ho|inr o=>exact Jkh.2 ho
theorem K21(hx:RsT x)(hb:b<=1000)(hc:Jw1 b c)(now:Int):Ok (J2m x now c.1 c.2.1 c.2.2.1 c.2.2.2.1 c.2.2.2.2.1 c.2.2.2.2.2.1 c.2.2.2.2.2.2.1 c.2.2.2.2.2.2.2.1 c.2.2.2.2.2.2.2.2.1 c.2.2.2.2.2.2.2.2.2.1 c.2.2.2.2.2.2.2.2.2.2.1 c.2.2.2.2.2.2.2.2.2.2.2.1 c.2.2.2.2.2.2.2.2.2.2.2.2.1 c.2.2.2.2.2.2.2.2.2.2.2.2.2) (λo=>Jw1 b o.2/\(o.1=0->Jfh x.2.2.1)):=by
 obtain⟨⟨h1,h1'⟩,h2,h3,h4,h5⟩:=hc;have hc:Jw1 b c:=⟨⟨h1,h1'⟩,h2,h3,h4,h5⟩;have hl:=h4.1;have hk:=h3.1;have hk2:=h3.2.1;have hxl:=hx.1;have e2:=oX ((c.2.2.2.2.2.1.1.length:Int) - 1);unfold J2m;simp only[wp];refine⟨λ_=>⟨hc,by simp⟩,λ_=>⟨λ_=>⟨hc,by simp⟩,λ_=>(Jor hxl).imp λq hq=>⟨λ_=>⟨hc,by simp⟩,λq1=>(K5f hb h4 x.1).imp λw hw=>⟨λ_=>⟨hc,by simp⟩,λw1=>⟨λ_=>⟨hc,by simp⟩,λ_=>⟨by omega,λ_=>⟨hc,by simp⟩,λ_=>⟨λ_=>⟨hc,by simp⟩,λ_=>(Kfc _ c (by omega)).imp λu hu=> ?_⟩⟩⟩⟩⟩⟩⟩;have hi:=hw w1;have hr:=hq q1;obtain⟨u1,u2,u3⟩:=u;obtain rfl:u3=c:=hu;have e3:=oX (x.1 - 1);dsimp only;refine⟨λ_=>⟨hc,by simp⟩,λ_=>⟨λ_=>⟨hc,by simp⟩,λ_=>⟨by omega,(K84 hx _ _).imp λv _=>⟨λ_=>⟨hc,λ_=>hr⟩,λ_=>⟨by simp;omega,by simp;omega,(Kao hb h4 x.1 hi).imp λy hy=>⟨⟨⟨by simp;omega,λk hk=> ?_⟩,h2,h3,hy,h5⟩,λ_=>hr⟩⟩⟩⟩⟩⟩;rcases List.mem_append.1 hk with hk|hk;·exact h1' k hk
 rw[List.mem_singleton.1 hk];exact hr
theorem Jp2(hx:RsT x)(hb:b<=1000)(hc:Jw1 b c)(hn:n<=100000)(ha:ac.length<=n)(now:Int) H:Ok (J1s x now ac () H c.1 c.2.1 c.2.2.1 c.2.2.2.1 c.2.2.2.2.1 c.2.2.2.2.2.1 c.2.2.2.2.2.2.1 c.2.2.2.2.2.2.2.1 c.2.2.2.2.2.2.2.2.1 c.2.2.2.2.2.2.2.2.2.1 c.2.2.2.2.2.2.2.2.2.2.1 c.2.2.2.2.2.2.2.2.2.2.2.1 c.2.2.2.2.2.2.2.2.2.2.2.2.1 c.2.2.2.2.2.2.2.2.2.2.2.2.2) (λo=>o.2.1.length<=n+1/\Jw1 b o.2.2):=by unfold J1s;simp only[wp];exact(K21 hx hb hc now).imp λo ho=>⟨λ_=>⟨by simp;omega,by simp;omega,by simp;omega,ho.1⟩,λ_=>⟨by omega,ho.1⟩⟩
theorem K8e(hb:b<=1000)(hc:Jw1 b c)(i:Int):Ok (J34 i c.1 c.2.1 c.2.2.1 c.2.2.2.1 c.2.2.2.2.1 c.2.2.2.2.2.1 c.2.2.2.2.2.2.1 c.2.2.2.2.2.2.2.1 c.2.2.2.2.2.2.2.2.1 c.2.2.2.2.2.2.2.2.2.1 c.2.2.2.2.2.2.2.2.2.2.1 c.2.2.2.2.2.2.2.2.2.2.2.1 c.2.2.2.2.2.2.2.2.2.2.2.2.1 c.2.2.2.2.2.2.2.2.2.2.2.2.2) (λo=>RgT b o.2.1):=by have h:=hc.2.2.2.1;unfold J34;simp only[wp];exact⟨λ_=>h,λ_=>(Kad hb h i).imp λu hu=>⟨λ_=>hu,λ_=>hu⟩⟩
theorem K8i i j (c:K80):Ok (J35 i j c.1 c.2.1 c.2.2.1 c.2.2.2.1 c.2.2.2.2.1 c.2.2.2.2.2.1 c.2.2.2.2.2.2.1 c.2.2.2.2.2.2.2.1 c.2.2.2.2.2.2.2.2.1 c.2.2.2.2.2.2.2.2.2.1 c.2.2.2.2.2.2.2.2.2.2.1 c.2.2.2.2.2.2.2.2.2.2.2.1 c.2.2.2.2.2.2.2.2.2.2.2.2.1 c.2.2.2.2.2.2.2.2.2.2.2.2.2) (λ_=>True):=by unfold J35;simp only[wp];exact⟨λ_=>trivial,λ_=>⟨λ_=>trivial,λ_=>⟨λ_=>trivial,λ_=>trivial⟩⟩⟩
theorem Kep(l:List (List UInt8))(i:Int)(hl:l.length<=60):(Jdg l i).length<=1000/\∀y∈Jdg l i,y.length=32:=by
 unfold Jdg;split;·exact⟨Nat.le_trans (Jdw ..) (by omega),Jjs _ _ _⟩
 exact⟨by simp,by simp⟩
def PsT(p:Prf):Prop:=PfT p/\Jfh p.2.2.1/\p.2.2.2.1.length=p.2.2.1.length
theorem Jb0{l:List α}{i:Int}(h0:0<=i)(h1:i<l.length)(d:α):l.getD i.toNat d∈l:=by rw[List.getD_eq_getElem?_getD,List.getElem?_eq_getElem (by omega)];exact List.getElem_mem ..
theorem Jcq{P:α->Prop}{l:List α}(h:∀x∈l,P x){a:α}(ha:P a):∀x∈l++[a],P x:=λx hx=>by
 rcases List.mem_append.1 hx with hx|hx;·exact h x hx
 rw[List.mem_singleton.1 hx];exact ha
theorem Jos{l:List Pr}(h:Jfh l){a b:Int}(ha:0<=a)(hb:b<=l.length):Ok (J0w l a b) PsT:=by have hl:=h.1;have kv:=K6d h;simp only[J0w,wp];refine⟨λ_=>⟨⟨by simp,by simp⟩,⟨by simp,by simp⟩,by simp⟩,λc=> ?_⟩;refine Jee (λi:Int×List Pr×List (List (List UInt8))=>a<=i.1/\i.1<=b/\i.2.1.length<=i.1/\i.2.2.length=i.2.1.length/\(∀x∈i.2.2,x.length<=1000/\∀y∈x,y.length=32)/\∀x∈i.2.1,PrT x) (λi=>b - i.1) ⟨by simp,by dsimp only;omega,by simp;omega,by simp,by simp,by simp⟩ λi hi=> ?_;obtain⟨i1,i2,i3,i4,i5,i6⟩:=hi;have e1:=oX (i.1+1);simp only[J0w_1_step,wp,Jqg l kv,Kr _ i.1 (show(J98 l).length<64 by rw[J9i];omega) (Jdd kv),List.length_append,List.length_cons,List.length_nil];have nx:∀x∈i.2.2++[Jdg (J98 l) i.1],x.length<=1000/\∀y∈x,y.length=32:=Jcq i5 (Kep _ _ (by rw[J9i];omega));have ny:i.1<l.length->∀x∈i.2.1++[l.getD i.1.toNat (([]:List UInt8),([]:List UInt8),())],PrT x:=λc=>Jcq i6 (h.2 _ (Jb0 (by omega) c _));have hz:PsT ((l.length:Int),a,i.2.1,i.2.2,()):=⟨⟨by dsimp only;omega,i5⟩,⟨by dsimp only;omega,i6⟩,i4⟩;repeat' first|omega|exact nx|exact hz|exact ny (by omega)|intro _|with_reducible apply And.intro
theorem K64(h:Jfh l)(a b:List UInt8):Ok (J3i l a b) PsT:=by have hl:=h.1;simp only[J3i,wp];refine(Jjc (by omega)).imp λi hi=>(Jjc (by omega)).imp λj hj=> ?_;have e1:=oX (i+1);have e2:=oX (j+1);have e3:=oX (i - 1);exact⟨λ_=>Jos h (by omega) (by omega),λ_=>Jos h (by omega) (by omega)⟩
def AnT(r:K0l):Prop:=Jfh r.2.2.1/\PsT r.2.2.2.1
theorem AnT.rs(h:AnT r):RsT r:=⟨by have:=h.1.1;omega,h.2.1⟩
theorem Jwh(h:x∈J9v l a b):x∈l:=List.mem_of_mem_take (List.mem_of_mem_drop h)
theorem K3q(l:List α) a b:(J9v l a b).length<=l.length:=by simp only[J9v,List.length_take,List.length_drop];omega
theorem Jmf(h:Jfh l) a b:Jfh (J9v l a b):=⟨Nat.le_trans (K3q ..) h.1,λx hx=>h.2 x (Jwh hx)⟩
theorem Jxs(h:Jfh l)(i:Int) q (t:Int):Ok (Js i q t l) AnT:=by
 have hl:=h.1;have lp:∀k,Ok (Js_1 l k l (l.length:Int) 0 q 0 0 0 0 () () i t ((0,0,[],[],()),()) []) (λo=>o.1=l/\Jfh o.2.2.2.2.2.2.2.2.2.2.2.2):=λk=>by refine Jee (λs:Int×List Pr=>0<=s.1/\s.1<=l.length/\s.2.length<=s.1/\∀x∈s.2,PrT x) (λs=>l.length - s.1) (by simp) λs hs=> ?_;obtain⟨i1,i2,i3,i4⟩:=hs;have e1:=oX (s.1+1);simp only[Js_1_step,wp,e1,List.length_append,List.length_cons,List.length_nil];have ny:s.1<l.length->∀x∈s.2++[l.getD s.1.toNat (([]:List UInt8),([]:List UInt8),())],PrT x:=λc=>Jcq i4 (h.2 _ (Jb0 (by omega) c _));have hz:Jfh s.2:=⟨by omega,i4⟩;repeat' first|omega|exact True.intro|exact i4|exact ny (by omega)|exact hz|intro _|with_reducible apply And.intro
 have nx:∀k,Ok (Js_1 l k l (l.length:Int) 0 q 0 0 0 0 () () i t ((0,0,[],[],()),()) []) (λo=>Ok (J3i o.1 o.2.2.1.2.1 o.2.1) λu=>AnT (o.2.2.2.2.2.2.2.2.2.1,o.2.2.2.2.2.2.2.2.2.2.1,o.2.2.2.2.2.2.2.2.2.2.2.2,u,())):=λk=>(lp k).imp λo ho=>by rw[ho.1];exact(K64 h _ _).imp λu hu=>⟨ho.2,hu⟩
 simp only[Js,wp];refine(Jjc (by omega)).imp λj hj=> ?_;have e1:=oX (j+1);refine⟨λ_=>⟨λc=>⟨by omega,λ_=>⟨by omega,(Jos h hj.1 (by omega)).imp λu hu=>⟨Jmf h _ _,hu⟩⟩,λ_=>nx _⟩,λ_=>nx _⟩,λ_=>nx _⟩
theorem Jsn{l:List (List Pr)}(h:∀r∈l,Jfh r)(i:Nat):Jfh (l.getD i []):=by rw[List.getD_eq_getElem?_getD];cases e:l[i]? with|none=>exact⟨by simp,by simp⟩|some x=>exact h x (List.mem_of_getElem? e)
section
variable {b : Nat} (hb : b ≤ 1000) {c : K80} (hc : Jw1 b c) {n : Nat} (hn : n ≤ 100000) {ac : List K7p} (ha : ac.length ≤ n) {H : Chn} (hH : ∀ r ∈ H.2.2.2.2.2.2.1, Jfh r) (hL : H.2.2.2.2.2.2.1.length ≤ 16)
include hb hc hn ha hH hL
theorem K7h(i j now:Int):Ok (J1v i j now ac () H c.1 c.2.1 c.2.2.1 c.2.2.2.1 c.2.2.2.2.1 c.2.2.2.2.2.1 c.2.2.2.2.2.2.1 c.2.2.2.2.2.2.2.1 c.2.2.2.2.2.2.2.2.1 c.2.2.2.2.2.2.2.2.2.1 c.2.2.2.2.2.2.2.2.2.2.1 c.2.2.2.2.2.2.2.2.2.2.2.1 c.2.2.2.2.2.2.2.2.2.2.2.2.1 c.2.2.2.2.2.2.2.2.2.2.2.2.2) (λo=>o.2.1.length<=n+1/\Jw1 b o.2.2):=by unfold J1v;simp only[wp];have h0:=hc.2.2.2.1.1;refine(Jmj hb hc.2.2.2.1 i).imp λu hu=>⟨λ_=>⟨by omega,hc⟩,λu1=>⟨λ_=>⟨by omega,hc⟩,λ_=>⟨λ_=>⟨by omega,hc⟩,λ_=>⟨λ_=>⟨by omega,hc⟩,λ_=> ?_⟩⟩⟩⟩;have hi:=hu u1;rw[oW,oW];exact⟨by omega,by omega,(Jxs (Jsn hH _) _ _ _).imp λx hx=>Jp2 hx.rs hb hc hn ha _ _⟩
end
theorem K36{l:List Block}(h:∀b∈l,Kbc b){i:Int}(h0:0<=i)(h1:i<l.length)(d:Block):Kbc (l.getD i.toNat d):=by rw[List.getD_eq_getElem?_getD,List.getElem?_eq_getElem (by omega)];exact h _ (List.getElem_mem ..)
theorem K7l(hb:b<=1000){c:K80}(hc:Jw1 b c){n:Nat}(hn:n<=90000){ac:List K7p}(ha:ac.length<=n){m:Nat}{H:Chn}(hC:ChnT m H)(h1:1<=H.2.2.2.2.2.1.length)(now:Int):Ok (Ju now ac () H c.1 c.2.1 c.2.2.1 c.2.2.2.1 c.2.2.2.2.1 c.2.2.2.2.2.1 c.2.2.2.2.2.2.1 c.2.2.2.2.2.2.2.1 c.2.2.2.2.2.2.2.2.1 c.2.2.2.2.2.2.2.2.2.1 c.2.2.2.2.2.2.2.2.2.2.1 c.2.2.2.2.2.2.2.2.2.2.2.1 c.2.2.2.2.2.2.2.2.2.2.2.2.1 c.2.2.2.2.2.2.2.2.2.2.2.2.2) (λo=>o.2.2.2.1.length<=n+b/\o.2.2.2.2.2.1=H/\Jw1 b o.2.2.2.2.2.2):=by
 have hH:=hC.2.2.2.2.2.2.2.2;have hl:=hC.2.2.2.2.2.1;have hl2:=hC.2.2.2.2.2.2.1;have lp:∀{c:K80} (hc:Jw1 b c) (e:Int) (B:Block),Ok (Ju_1 0 e (c.2.2.2.2.2.2.1.2.2.1.length:Int) 0 now ac () H c.1 c.2.1 c.2.2.1 c.2.2.2.1 c.2.2.2.2.1 c.2.2.2.2.2.1 c.2.2.2.2.2.2.1 c.2.2.2.2.2.2.2.1 c.2.2.2.2.2.2.2.2.1 c.2.2.2.2.2.2.2.2.2.1 c.2.2.2.2.2.2.2.2.2.2.1 c.2.2.2.2.2.2.2.2.2.2.2.1 c.2.2.2.2.2.2.2.2.2.2.2.2.1 c.2.2.2.2.2.2.2.2.2.2.2.2.2 B) (λo=>o.2.2.2.1.length<=n+b/\o.2.2.2.2.2.1=H/\Jw1 b o.2.2.2.2.2.2):=λ{c} hc e B=>by have hL:=hc.2.2.2.1.1;refine Jee (λs:Int×Int×Int×List K7p×K80=>0<=s.2.2.1/\s.2.2.1<=c.2.2.2.2.2.2.1.2.2.1.length/\(s.2.2.2.1.length:Int)<=n+s.2.2.1/\Jw1 b s.2.2.2.2) (λs=>c.2.2.2.2.2.2.1.2.2.1.length - s.2.2.1) ⟨by simp,by simp,by dsimp only;omega,hc⟩ λs hs=> ?_;obtain⟨i1,i2,i3,i4⟩:=hs;have e1:=oX (s.2.2.1+1);simp only[Ju_1_step,wp,e1];refine⟨λc0=>(K5f hb i4.2.2.2.1 _).imp λu _=>⟨λ_=>⟨⟨by omega,by omega,by omega,i4⟩,by omega,by omega⟩,λ_=>(K7h hb i4 (by omega) (Nat.le_refl _) hH (by omega) _ _ _).imp λy hy=> ?_⟩,λ_=>⟨by omega,by trivial,i4⟩⟩;repeat' first|omega|exact hy.2|intro _|with_reducible apply And.intro
 have e1:=oX ((H.2.2.2.2.2.1.length:Int) - 1);have e2:=J9n (n:=(c.2.2.2.2.2.1.1.length:Int) - 1) (by have:=hc.2.2.1.2.1;omega) (by have:=hc.2.2.1.2.1;omega);unfold Ju;simp only[wp,e1,e2];have h2:=hc.2.2.1.1;exact⟨by omega,by omega,λ_=>(Kco (K36 hC.2.2.2.2.2.2.2.1 (by omega) (by omega) _) hc.2.2.1 now).imp λu hu=>lp (c:=(c.1,c.2.1,c.2.2.1,c.2.2.2.1,c.2.2.2.2.1,u.2,c.2.2.2.2.2.2)) ⟨hc.1,hc.2.1,hu,hc.2.2.2⟩ _ _,λ_=>lp hc _ _⟩
abbrev Opt:=Int×Int×Int×List UInt8×(Int×List UInt8×List UInt8×Int×Int×Unit)×Qry×List UInt8×Unit
def TxOk(t:Int×List UInt8×List UInt8×Int×Int×Unit):Prop:=(1<=t.1/\t.1<=6)/\(1<=t.2.1.length/\t.2.1.length<=3)/\t.2.2.1.length<=8
def OpT(o:Opt):Prop:=(o.1=1->TxOk o.2.2.2.2.1)/\QT o.2.2.2.2.2.1
end Go.Ax.V
