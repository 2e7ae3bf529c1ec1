/-
  Of any store, any key, any range: there is a proof of what is so, and it is verified; none that prove makes of another store shows something else, but by a clash.
-/
import Derived.Test.YthhioanidhkdeaaGreatCTopProofsLA
namespace Go.Ax.V
open Go.Ax
set_option linter.unusedVariables false
set_option linter.unusedSimpArgs false
theorem get_put (z x:List UInt8) (y:List UInt8):∀ m:List (List UInt8×List UInt8),J64 hq z (J6m hq x y m)=if z=x then some y else J64 hq z m
 | []=>by
  rw [J6m,J64,J64]
  by_cases e:z=x
  ·rw [if_pos e,(Jbi z x).2 e]; rfl
  ·rw [if_neg e,show hq z x=false from by rw [← Bool.not_eq_true,Jbi]; exact e]; rfl
 | p::r=>by
  rw [J6m]
  cases c:hq x p.1 with
  | true=>
   have c:=(Jbi _ _).1 c
   rw [cond_true,J64,J64]
   by_cases e:z=x
   ·rw [if_pos e,(Jbi z p.1).2 (e.trans c)]; rfl
   ·rw [if_neg e,show hq z p.1=false from by rw [← Bool.not_eq_true,Jbi]; exact fun e2=>e (e2.trans c.symm)]; rfl
  | false=>
   have c:¬ x=p.1:=fun e=>by rw [(Jbi x p.1).2 e] at c; cases c
   rw [cond_false,J64,J64,get_put z x y r]
   by_cases e:z=x
   ·rw [if_pos e,if_pos e,show hq z p.1=false from by rw [← Bool.not_eq_true,Jbi]; exact fun e2=>c (e.symm.trans e2)]; rfl
   ·rw [if_neg e,if_neg e]
theorem Jei (x0:List (List UInt8)) (x1:Int) (x2:Int) (x3:List (List UInt8×List UInt8)):J0b_1_step x0 x1 x2 x3 =
  (fork (decide (x2 < x1)) (need (0≤x2∧x2 < (List.length x0:Int)) (andThen (J4 (List.getD x0 (Int.toNat x2) ([]:List UInt8))) (fun u4=>fork (Option.isSome (J64 hq u4 x3)) (fork (!decide ((Option.getD (J64 hq u4 x3) ([]:List UInt8))=(List.getD x0 (Int.toNat x2) ([]:List UInt8)))) (some (.inr (.inl true))) (some (.inl ((w64 (x2+(1:Int))),(J6m hq u4 (List.getD x0 (Int.toNat x2) ([]:List UInt8)) x3))))) (some (.inl ((w64 (x2+(1:Int))),(J6m hq u4 (List.getD x0 (Int.toNat x2) ([]:List UInt8)) x3))))))) (some (.inr (.inr ()))):Option ((Int×List (List UInt8×List UInt8))⊕((Bool)⊕(Unit)))):=rfl
def Apart (S:List (List UInt8)):Prop:=∀ x ∈ S,∀ y ∈ S,sha x=sha y→x=y
theorem Jw2 (l:List (List UInt8)) (hl:l.length≤1000000) (hs:∀ x ∈ l,x.length≤1073741824):∃ b,J0b l=some b∧(b=false→Apart l):=by
 have main:=Jzl (step:=fun (s:Int×List (List UInt8×List UInt8))=>J0b_1_step l (l.length:Int) s.1 s.2)
  (fun k s=>∃ i:Nat,s.1=(i:Int)∧i+k=l.length∧∀ j,j < i→J64 hq (sha (l.getD j [])) s.2=some (l.getD j []))
  (fun r=>r=.inr ()→Apart l) (by
   rintro k ⟨i0,m⟩ ⟨i,rfl,hi,hm⟩
   dsimp only at hm ⊢
   by_cases c:i < l.length
   ·have hg:=hs _ (J6g (z:=[]) c)
    rw [Jei,J5p (by omega),J5m (by omega),Int.toNat_natCast,Jur _ hg,J5l,J5q (by omega) (by omega)]
    have next:(∀ s,J64 hq (sha (l.getD i [])) m=some s→s=l.getD i [])→∀ j,j < i+1→J64 hq (sha (l.getD j [])) (J6m hq (sha (l.getD i [])) (l.getD i []) m)=some (l.getD j []):=by
     intro hn j hj
     rw [get_put]
     by_cases e:j=i
     ·subst e; rw [if_pos rfl]
     ·have hmj:=hm j (by omega)
      by_cases e2:sha (l.getD j [])=sha (l.getD i [])
      ·rw [if_pos e2,hn (l.getD j []) (by rw [← e2]; exact hmj)]
      ·rw [if_neg e2,hmj]
    cases hf:J64 hq (sha (l.getD i [])) m with
    | none=>
     rw [Option.isSome_none,J60]
     exact .inr ⟨k - 1,_,by omega,rfl,i+1,by dsimp only; omega,by omega,next (fun s h=>by rw [hf] at h; cases h)⟩
    | some s=>
     rw [Option.isSome_some,J74,Option.getD_some]
     by_cases e:s=l.getD i []
     ·rw [J82 e]
      exact .inr ⟨k - 1,_,by omega,rfl,i+1,by dsimp only; omega,by omega,next (fun s' h=>by rw [hf] at h; injection h with h; rw [← h,e])⟩
     ·rw [J8v e]
      exact .inl ⟨_,rfl,fun h=>by cases h⟩
   ·rw [Jei,J5o (by omega)]
    refine .inl ⟨_,rfl,fun _=>?_⟩
    intro x hx y hy hxy
    obtain ⟨a,ha,rfl⟩:=List.mem_iff_getElem.1 hx
    obtain ⟨b,hb,rfl⟩:=List.mem_iff_getElem.1 hy
    have e1:l.getD a []=l[a]:=by rw [List.getD_eq_getElem?_getD,List.getElem?_eq_getElem ha]; rfl
    have e2:l.getD b []=l[b]:=by rw [List.getD_eq_getElem?_getD,List.getElem?_eq_getElem hb]; rfl
    have h1:=hm a (by omega)
    have h2:=hm b (by omega)
    rw [e1] at h1; rw [e2,← hxy,h1] at h2
    injection h2) l.length (0,[]) ⟨0,rfl,by omega,fun j h=>by omega⟩
 obtain ⟨r,e,q⟩:=main
 unfold J0b
 rw [show J0b_1 l (l.length:Int) (0:Int) ([]:List (List UInt8×List UInt8))=some r from e,J5l]
 match r,q with
 | .inl b,q=>
  cases b with
  | true=>exact ⟨true,rfl,fun h=>by cases h⟩
  | false=>
   -- the step never comes out so
   exfalso
   have no:∀ n s,Jb9 (fun (s:Int×List (List UInt8×List UInt8))=>J0b_1_step l (l.length:Int) s.1 s.2) n s≠some (.inl false):=by
    intro n
    induction n with
    | zero=>intro s h; cases h
    | succ n ih=>
     intro s h
     rw [Jb9] at h
     split at h
     ·cases h
     ·exact ih _ h
     ·rename_i r hr
      injection h with h; subst h
      rw [Jei] at hr
      rcases Jdf hr with ⟨_,hr⟩ | ⟨_,hr⟩
      ·obtain ⟨_,hr⟩:=Jdm hr
       obtain ⟨u,_,hr⟩:=Jl2 hr
       rcases Jdf hr with ⟨_,hr⟩ | ⟨_,hr⟩
       ·rcases Jdf hr with ⟨_,hr⟩ | ⟨_,hr⟩
        ·injection hr with hr; injection hr with hr; injection hr with hr; cases hr
        ·cases hr
       ·cases hr
      ·cases hr
   obtain ⟨n,hn⟩:=J9d.1 e
   exact no n _ hn
 | .inr (),q=>exact ⟨false,rfl,fun _=>q rfl⟩
noncomputable def insF:Nat→List (List UInt8)→List (List UInt8)
 | 0,_=>[]
 | f+1,l=>if l.length=0 then [[2]] else if l.length=1 then [0::l.getD 0 []]
   else insF f (l.take (J5s l.length))++insF f (l.drop (J5s l.length))++[1::(J76 (l.take (J5s l.length))++J76 (l.drop (J5s l.length)))]
theorem Jo9:∀ (k:Nat) (l:List (List UInt8)),l.length < k→l.length < 64→Small l→J0f_f k l=some (insF k l)∧(insF k l).length+1≤2 * max l.length 1∧∀ x ∈ insF k l,x.length≤1000001
 | 0,l,h,_,_=>by omega
 | k+1,l,h,h2,hs=>by
  rw [J0f_f,insF]
  by_cases c0:l.length=0
  ·rw [J5p (by omega),if_pos c0]
   exact ⟨rfl,by simp; omega,by simp⟩
  ·rw [J5o (by omega),if_neg c0]
   by_cases c1:l.length=1
   ·have hg:=hs _ (J6g (z:=[]) (show 0 < l.length by omega))
    rw [J5p (by omega),if_pos c1,J5m (by omega),show Int.toNat (0:Int)=0 from rfl,J5m (by rw [List.length_singleton]; omega)]
    refine ⟨rfl,by simp; omega,fun x hx=>?_⟩
    rw [List.mem_singleton.1 hx,List.length_cons]; omega
   ·obtain ⟨b1,b2,b3⟩:=J85 l.length (by omega) (by omega)
    have t1:(l.take (J5s l.length)).length=J5s l.length:=by rw [List.length_take]; omega
    have t2:(l.drop (J5s l.length)).length=l.length - J5s l.length:=by rw [List.length_drop]
    have r1:=J6l (l.take (J5s l.length))
    have r2:=J6l (l.drop (J5s l.length))
    obtain ⟨i1,j1,k1⟩:=Jo9 k (l.take (J5s l.length)) (by omega) (by omega) (J96 hs _)
    obtain ⟨i2,j2,k2⟩:=Jo9 k (l.drop (J5s l.length)) (by omega) (by omega) (J95 hs _)
    rw [J5o (by omega),if_neg c1,Jjt _ (by omega),J5l,J5m (by omega),Jcc,Int.toNat_natCast,Jfv _ (by omega) (J96 hs _),J5l,J5m (by omega),J8m,Int.toNat_natCast,Jfv _ (by omega) (J95 hs _),J5l,
     J5m (by rw [List.length_singleton]; omega),J5m (by rw [List.length_append,List.length_singleton]; omega),i1,J5l,i2,J5l,J5m (by omega),J5m (by rw [List.length_append,List.length_singleton]; omega)]
    refine ⟨rfl,?_,fun x hx=>?_⟩
    ·rw [List.length_append,List.length_append,List.length_singleton]; omega
    ·rcases List.mem_append.1 hx with hx | hx
     ·rcases List.mem_append.1 hx with hx | hx
      ·exact k1 x hx
      ·exact k2 x hx
     ·rw [List.mem_singleton.1 hx,List.length_cons,List.length_append]; omega
theorem Jri {l:List Pr} (h:l.length≤60):(J5w l).length < 64:=by rw [J6b]; omega
noncomputable def J8w (l:List Pr):List (List UInt8):=insF 64 (J5w l)++[83::(oneS (l.length:Int)++J76 (J5w l))]
theorem Jtc (l:List Pr) (h:KvOk l):J3a l=some (J8w l)∧(J8w l).length≤1000∧∀ x ∈ J8w l,x.length≤1000001:=by
 have hl:=h.1
 have hs:=Jap h
 have h64:=Jri hl
 have h1:=J6x (l.length:Int)
 have h2:=J6l (J5w l)
 obtain ⟨i1,j1,k1⟩:=Jo9 64 (J5w l) h64 h64 hs
 unfold J3a
 rw [Jrh l h,J5l,Jfv _ h64 hs,J5l,J5l,show J0f (J5w l)=J0f_f 64 (J5w l) from rfl,i1,J5l,Jkk,J5l,J5m (by rw [List.length_singleton]; omega),J5m (by rw [List.length_append,List.length_singleton]; omega),J5m (by rw [List.length_singleton]; omega)]
 refine ⟨rfl,?_,fun x hx=>?_⟩
 ·unfold J8w; rw [List.length_append,List.length_singleton]; omega
 ·rcases List.mem_append.1 hx with hx | hx
  ·exact k1 x hx
  ·rw [List.mem_singleton.1 hx,List.length_cons,List.length_append]; omega
noncomputable def upN (leaf:List UInt8) (i n:Nat) (p:List (List UInt8)):List UInt8:=Ja4 (J65 n i n).reverse p (Jnt leaf)
noncomputable def upsN:Nat→List UInt8→Nat→Nat→List (List UInt8)→List (List UInt8)
 | 0,_,_,_,_=>[]
 | f+1,leaf,i,n,p=>if n≤1 then [0::leaf]
   else if i < J5s n then upsN f leaf i (J5s n) (p.take (p.length - 1))++[1::(upN leaf i (J5s n) (p.take (p.length - 1))++p.getD (p.length - 1) zT)]
   else upsN f leaf (i - J5s n) (n - J5s n) (p.take (p.length - 1))++[1::(p.getD (p.length - 1) zT++upN leaf (i - J5s n) (n - J5s n) (p.take (p.length - 1)))]
theorem Jj2 (leaf:List UInt8) (i n:Nat) (p:List (List UInt8)):(upN leaf i n p).length=32:=Jfi _ _ _ (J6w _)
theorem Jrm {n i:Nat} (h1:¬ n≤1) (h2:n≤1000):J65 n i n=if i < J5s n then true::J65 (J5s n) i (J5s n) else false::J65 (n - J5s n) (i - J5s n) (n - J5s n):=by
 obtain ⟨b1,b2,b3⟩:=J85 n (by omega) (by omega)
 obtain ⟨q,rfl⟩:∃ q,n=q+1:=⟨n - 1,by omega⟩
 rw [J65,if_neg h1]
 split
 ·rw [J8i q (J5s (q+1)) _ _ (by omega) (by omega) (by omega)]
 ·rw [J8i q (q+1 - J5s (q+1)) _ _ (by omega) (by omega) (by omega)]
theorem Jih {p:List (List UInt8)} (h:p.length≠0):p=p.take (p.length - 1)++[p.getD (p.length - 1) zT]:=by
 rw [List.getD_eq_getElem?_getD,List.getElem?_eq_getElem (by omega)]
 conv=>lhs; rw [← List.take_append_drop (p.length - 1) p,List.drop_eq_getElem_cons (by omega),List.drop_of_length_le (by omega)]
 rfl
theorem Jq7 (leaf:List UInt8) (i n:Nat) (p:List (List UInt8)) (h1:¬ n≤1) (h2:n≤1000) (hp:p.length=(J65 n i n).length) :
  p.length≠0∧(if i < J5s n then (p.take (p.length - 1)).length=(J65 (J5s n) i (J5s n)).length∧upN leaf i n p=Ja6 (upN leaf i (J5s n) (p.take (p.length - 1))) (p.getD (p.length - 1) zT)
   else (p.take (p.length - 1)).length=(J65 (n - J5s n) (i - J5s n) (n - J5s n)).length∧upN leaf i n p=Ja6 (p.getD (p.length - 1) zT) (upN leaf (i - J5s n) (n - J5s n) (p.take (p.length - 1)))):=by
 have e:=Jrm (i:=i) h1 h2
 have h0:p.length≠0:=by rw [hp,e]; split <;> simp
 have htl:(p.take (p.length - 1)).length=p.length - 1:=by rw [List.length_take]; omega
 refine ⟨h0,?_⟩
 by_cases c:i < J5s n
 ·rw [if_pos c] at e ⊢
  rw [e,List.length_cons] at hp
  refine ⟨by omega,?_⟩
  unfold upN
  rw [e,List.reverse_cons]
  conv=>lhs; rw [Jih h0]
  rw [J7u _ _ _ _ _ (by rw [List.length_reverse]; omega),if_pos rfl]
 ·rw [if_neg c] at e ⊢
  rw [e,List.length_cons] at hp
  refine ⟨by omega,?_⟩
  unfold upN
  rw [e,List.reverse_cons]
  conv=>lhs; rw [Jih h0]
  rw [J7u _ _ _ _ _ (by rw [List.length_reverse]; omega),if_neg (by simp)]
theorem Job:∀ (k:Nat) (leaf:List UInt8) (i n:Nat) (p:List (List UInt8)),n < k→i < n→n < 64→leaf.length≤1000000→(∀ x ∈ p,x.length=32)→p.length≤100000→k≤64→p.length=(J65 n i n).length→
  J0t_f k leaf (i:Int) (n:Int) p=some (upsN k leaf i n p)∧(upsN k leaf i n p).length≤k∧∀ x ∈ upsN k leaf i n p,x.length≤1000001
 | 0,leaf,i,n,p,h,_,_,_,_,_,_,_=>by omega
 | k+1,leaf,i,n,p,h,hi,h2,hf,hp,hb,hk,hl=>by
  rw [J0t_f,upsN]
  by_cases h1:n≤1
  ·rw [J5p (by omega),if_pos h1,J5m (by rw [List.length_singleton]; omega)]
   refine ⟨rfl,by simp,fun x hx=>?_⟩
   rw [List.mem_singleton.1 hx,List.length_cons]; omega
  ·obtain ⟨b1,b2,b3⟩:=J85 n (by omega) (by omega)
   obtain ⟨h0,hu⟩:=Jq7 leaf i n p h1 (by omega) hl
   have htl:(p.take (p.length - 1)).length=p.length - 1:=by rw [List.length_take]; omega
   have hg:(p.getD (p.length - 1) zT).length=32:=hp _ (J6g (z:=zT) (by omega))
   have hg2:(p.getD (p.length - 1) (List.replicate 32 (0:UInt8))).length=32:=hg
   have hpt:∀ x ∈ p.take (p.length - 1),x.length=32:=fun x hx=>hp x (List.mem_of_mem_take hx)
   have e1:w64 ((p.length:Int) - 1)=((p.length - 1:Nat):Int):=by rw [J5q (by omega) (by omega)]; omega
   rw [J5o (by omega),if_neg h1,Jjt n (by omega),J5l,e1,J5m (by omega),Jcc,Int.toNat_natCast]
   have up:∀ (i' n':Nat),i' < n'→n' < 64→(p.take (p.length - 1)).length=(J65 n' i' n').length→J01 leaf (i':Int) (n':Int) (p.take (p.length - 1))=some (upN leaf i' n' (p.take (p.length - 1)),true):=by
    intro i' n' a1 a2 a3
    obtain ⟨x,x1,x2,x3⟩:=Jfw 64 leaf i' n' (p.take (p.length - 1)) (by omega) a1 a2 hf hpt (by omega)
    rw [decide_eq_true a3] at x1
    rw [show J01 leaf (i':Int) (n':Int) (p.take (p.length - 1))=J01_f 64 leaf (i':Int) (n':Int) (p.take (p.length - 1)) from rfl,x1,x3 a3]; rfl
   by_cases c:i < J5s n
   ·rw [if_pos c] at hu ⊢
    obtain ⟨i1,j1,k1⟩:=Job k leaf i (J5s n) (p.take (p.length - 1)) (by omega) c (by omega) hf hpt (by omega) (by omega) hu.1
    have u32:=Jj2 leaf i (J5s n) (p.take (p.length - 1))
    rw [J5p (by omega),J5m (by omega),up i (J5s n) c (by omega) hu.1,J5l,i1,J5l]
    dsimp only
    rw [J5m (by rw [List.length_singleton]; omega),J5m (by rw [List.length_append,List.length_singleton]; omega),J5m (by rw [List.length_singleton]; omega)]
    refine ⟨rfl,by rw [List.length_append,List.length_singleton]; omega,fun x hx=>?_⟩
    rcases List.mem_append.1 hx with hx | hx
    ·exact k1 x hx
    ·rw [List.mem_singleton.1 hx,List.length_cons,List.length_append]; omega
   ·rw [if_neg c] at hu ⊢
    obtain ⟨i1,j1,k1⟩:=Job k leaf (i - J5s n) (n - J5s n) (p.take (p.length - 1)) (by omega) (by omega) (by omega) hf hpt (by omega) (by omega) hu.1
    have u32:=Jj2 leaf (i - J5s n) (n - J5s n) (p.take (p.length - 1))
    rw [J5o (by omega),J5m (by omega),J5q (by omega) (by omega),J5q (by omega) (by omega),show (i:Int) - ((J5s n:Nat):Int)=((i - J5s n:Nat):Int) from by omega,show (n:Int) - ((J5s n:Nat):Int)=((n - J5s n:Nat):Int) from by omega,up (i - J5s n) (n - J5s n) (by omega) (by omega) hu.1,J5l,i1,J5l]
    dsimp only
    rw [J5m (by rw [List.length_singleton]; omega),J5m (by rw [List.length_append,List.length_singleton]; omega),J5m (by rw [List.length_singleton]; omega)]
    refine ⟨rfl,by rw [List.length_append,List.length_singleton]; omega,fun x hx=>?_⟩
    rcases List.mem_append.1 hx with hx | hx
    ·exact k1 x hx
    ·rw [List.mem_singleton.1 hx,List.length_cons,List.length_append]; omega
theorem Jn1 (S:List (List UInt8)) (hS:Apart S):∀ (f:Nat) (l:List (List UInt8)) (leaf:List UInt8) (i:Nat) (p:List (List UInt8)),l.length≤f→i < l.length→l.length≤60→(∀ x ∈ insF f l,x ∈ S)→(∀ x ∈ upsN f leaf i l.length p,x ∈ S)→
  p.length=(J65 l.length i l.length).length→(∀ x ∈ p,x.length=32)→upN leaf i l.length p=J76 l→leaf=l.getD i []
 | 0,l,leaf,i,p,h,hi,_,_,_,_,_,_=>by omega
 | f+1,l,leaf,i,p,h,hi,h60,hin,hup,hl,hp,he=>by
  rw [insF] at hin
  rw [upsN] at hup
  by_cases h1:l.length≤1
  ·have e1:l.length=1:=by omega
   rw [if_neg (by omega),if_pos e1] at hin
   rw [if_pos h1] at hup
   have es:J65 l.length i l.length=[]:=by rw [e1,J65,if_pos (by omega)]
   have hp0:p=[]:=by rw [es] at hl; exact List.eq_nil_of_length_eq_zero hl
   unfold upN at he
   rw [es,hp0] at he
   have he:sha (0::leaf)=J76 l:=he
   rw [Jdz l,dif_neg (by omega),if_neg (by omega)] at he
   have:=hS _ (hup _ (List.mem_singleton.2 rfl)) _ (hin _ (List.mem_singleton.2 rfl)) he
   injection this with _ this
   rw [this,show i=0 by omega]
  ·obtain ⟨b1,b2,b3⟩:=J85 l.length (by omega) (by omega)
   rw [if_neg (by omega),if_neg (by omega)] at hin
   rw [if_neg h1] at hup
   obtain ⟨h0,hu⟩:=Jq7 leaf i l.length p h1 (by omega) hl
   have t1:(l.take (J5s l.length)).length=J5s l.length:=by rw [List.length_take]; omega
   have t2:(l.drop (J5s l.length)).length=l.length - J5s l.length:=by rw [List.length_drop]
   have r1:=J6l (l.take (J5s l.length))
   have r2:=J6l (l.drop (J5s l.length))
   have hg:(p.getD (p.length - 1) zT).length=32:=hp _ (J6g (z:=zT) (by omega))
   have hpt:∀ x ∈ p.take (p.length - 1),x.length=32:=fun x hx=>hp x (List.mem_of_mem_take hx)
   rw [Je0 l (by omega) (by omega)] at he
   by_cases c:i < J5s l.length
   ·rw [if_pos c] at hu hup
    rw [hu.2] at he
    have u32:=Jj2 leaf i (J5s l.length) (p.take (p.length - 1))
    have q:=hS _ (hup _ (List.mem_append_right _ (List.mem_singleton.2 rfl))) _ (hin _ (List.mem_append_right _ (List.mem_singleton.2 rfl))) he
    injection q with _ q
    obtain ⟨q1,q2⟩:=List.append_inj q (by omega)
    have ih:=Jn1 S hS f (l.take (J5s l.length)) leaf i (p.take (p.length - 1)) (by omega) (by omega) (by omega) (fun x hx=>hin x (List.mem_append_left _ (List.mem_append_left _ hx))) (fun x hx=>hup x (List.mem_append_left _ (by rw [t1] at hx; exact hx))) (by rw [t1]; exact hu.1) hpt (by rw [t1]; exact q1)
    rw [ih,List.getD_eq_getElem?_getD,List.getD_eq_getElem?_getD,List.getElem?_take,if_pos c]
   ·rw [if_neg c] at hu hup
    rw [hu.2] at he
    have u32:=Jj2 leaf (i - J5s l.length) (l.length - J5s l.length) (p.take (p.length - 1))
    have q:=hS _ (hup _ (List.mem_append_right _ (List.mem_singleton.2 rfl))) _ (hin _ (List.mem_append_right _ (List.mem_singleton.2 rfl))) he
    injection q with _ q
    obtain ⟨q1,q2⟩:=List.append_inj q (by omega)
    have ih:=Jn1 S hS f (l.drop (J5s l.length)) leaf (i - J5s l.length) (p.take (p.length - 1)) (by omega) (by omega) (by omega) (fun x hx=>hin x (List.mem_append_left _ (List.mem_append_right _ hx))) (fun x hx=>hup x (List.mem_append_left _ (by rw [t2] at hx; exact hx))) (by rw [t2]; exact hu.1) hpt (by rw [t2]; exact q2)
    rw [ih,List.getD_eq_getElem?_getD,List.getD_eq_getElem?_getD,List.getElem?_drop,show J5s l.length+(i - J5s l.length)=i by omega]
noncomputable def Jb4 (p:Prf) (i:Nat):List (List UInt8):=upsN 64 (J7z (p.2.2.1.getD i zPr)) (p.2.1+(i:Int)).toNat p.1.toNat (p.2.2.2.1.getD i [])++[83::(oneS p.1++(J7e p i).1)]
noncomputable def Jdv (p:Prf):List (List UInt8):=if p.1=0 then [[2],83::(oneS 0++sha [2])] else (List.range p.2.2.1.length).flatMap (Jb4 p)
theorem Jui (x0:List Pr) (x1:Int) (x2:Int) (x3:Prf) (x4:List (List UInt8)):J04_1_step x0 x1 x2 x3 x4 =
  (fork (decide (x2 < x1)) (need (0≤x2∧x2 < (List.length x0:Int)) (andThen (J14 (List.getD x0 (Int.toNat x2) zPr)) (fun u11=>need (0≤x2∧x2 < (List.length x3.2.2.2.1:Int)) (andThen (J01 u11 (w64 (x3.2.1+x2)) x3.1 (List.getD x3.2.2.2.1 (Int.toNat x2) ([]:List (List UInt8)))) (fun u14=>fork u14.2 (andThen (J14 (List.getD x0 (Int.toNat x2) zPr)) (fun u17=>andThen (J0t u17 (w64 (x3.2.1+x2)) x3.1 (List.getD x3.2.2.2.1 (Int.toNat x2) ([]:List (List UInt8)))) (fun u19=>need (List.length x4+List.length u19≤2147483648) (andThen (J06 x3.1) (fun u22=>need (List.length ([(83:UInt8)]:List (UInt8))+List.length u22≤2147483648) (need (List.length (([(83:UInt8)]:List (UInt8))++u22)+List.length u14.1≤2147483648) (need (List.length (x4++u19)+List.length ([((([(83:UInt8)]:List (UInt8))++u22)++u14.1)]:List (List UInt8))≤2147483648) (some (.inl ((w64 (x2+(1:Int))),((x4++u19)++([((([(83:UInt8)]:List (UInt8))++u22)++u14.1)]:List (List UInt8))))))))))))) (some (.inl ((w64 (x2+(1:Int))),x4)))))))) (some (.inr x4)):Option ((Int×List (List UInt8))⊕(List (List UInt8)))):=rfl
theorem Jdw {root:List UInt8} {p:Prf} (hs:J71 root p=true) (h0:p.1≠0) {i:Nat} (hi:i < p.2.2.1.length) :
  (p.2.1+(i:Int)).toNat < p.1.toNat∧(p.2.2.2.1.getD i []).length=(J65 p.1.toNat (p.2.1+(i:Int)).toNat p.1.toNat).length∧(J7e p i)=(upN (J7z (p.2.2.1.getD i zPr)) (p.2.1+(i:Int)).toNat p.1.toNat (p.2.2.2.1.getD i []),true)∧Jg4 p.1.toNat (J7e p i).1=root:=by
 obtain ⟨n1,n2,n3,n4,n5⟩:=J9m hs
 unfold J71 at hs
 simp only [Bool.and_eq_true] at hs
 have hs:=hs.2.2.2
 rw [if_neg h0,Bool.and_eq_true] at hs
 have ha:=List.all_eq_true.1 hs.2 i (List.mem_range.2 hi)
 unfold J9l at ha
 rw [Bool.and_eq_true,Jbi] at ha
 obtain ⟨a1,a2⟩:=ha
 refine ⟨by omega,?_⟩
 have a3:=a1
 unfold J7e upS at a3
 split at a3
 ·rename_i c
  refine ⟨c.2,?_,a2⟩
  unfold J7e upS
  rw [if_pos c]; rfl
 ·cases a3
theorem Jx0 {root:List UInt8} {p:Prf} (hs:J71 root p=true):p.2.2.2.1.length=p.2.2.1.length:=by
 unfold J71 at hs
 simp only [Bool.and_eq_true,decide_eq_true_eq] at hs
 exact hs.1.2.2
theorem Juf {root:List UInt8} {p:Prf} (h:Jd3 p) (hs:J71 root p=true) (h0:p.1≠0) {i:Nat} (hi:i < p.2.2.1.length) :
  J0t (J7z (p.2.2.1.getD i zPr)) (p.2.1+(i:Int)) p.1 (p.2.2.2.1.getD i [])=some (upsN 64 (J7z (p.2.2.1.getD i zPr)) (p.2.1+(i:Int)).toNat p.1.toNat (p.2.2.2.1.getD i []))∧(Jb4 p i).length≤65∧∀ x ∈ Jb4 p i,x.length≤1000001:=by
 obtain ⟨n1,n2,n3,n4,n5⟩:=J9m hs
 obtain ⟨q1,q2,q3,q4⟩:=Jdw hs h0 hi
 obtain ⟨k1,_⟩:=Je5 hs
 have hlf:=Jdl (k1.2 _ (J6g (z:=zPr) hi))
 obtain ⟨c1,c2⟩:=Jk6 h i
 obtain ⟨r1,r2,r3⟩:=Job 64 (J7z (p.2.2.1.getD i zPr)) (p.2.1+(i:Int)).toNat p.1.toNat (p.2.2.2.1.getD i []) (by omega) q1 (by omega) (by omega) c1 c2 (by omega) q2
 have o1:=J6x p.1
 have u1:=Jj2 (J7z (p.2.2.1.getD i zPr)) (p.2.1+(i:Int)).toNat p.1.toNat (p.2.2.2.1.getD i [])
 refine ⟨?_,?_,fun x hx=>?_⟩
 ·rw [show (((p.2.1+(i:Int)).toNat:Nat):Int)=p.2.1+(i:Int) from by omega,show ((p.1.toNat:Nat):Int)=p.1 from by omega] at r1
  exact r1
 ·unfold Jb4; rw [List.length_append,List.length_singleton]; omega
 ·rcases List.mem_append.1 hx with hx | hx
  ·exact r3 x hx
  ·have u2:(J7e p i).1.length=32:=by rw [q3]; exact u1
   rw [List.mem_singleton.1 hx,List.length_cons,List.length_append]; omega
theorem Jyc {f:Nat→List (List UInt8)} {n c:Nat} (h:∀ i,i < n→(f i).length≤c):∀ k,k≤n→((List.range k).flatMap f).length≤k * c
 | 0,_=>by simp
 | k+1,hk=>by
  have:=Jyc h k (by omega)
  have:=h k (by omega)
  rw [List.range_succ,List.flatMap_append,List.length_append,List.flatMap_singleton,Nat.add_mul,Nat.one_mul]; omega
theorem Jug {root:List UInt8} {p:Prf} (h:Jd3 p) (hs:J71 root p=true):J04 p=some (Jdv p)∧(Jdv p).length≤2000∧∀ x ∈ Jdv p,x.length≤1000001:=by
 obtain ⟨n1,n2,n3,n4,n5⟩:=J9m hs
 have o0:=J6x 0
 have s2:=J6w [2]
 unfold J04 Jdv
 by_cases h0:p.1=0
 ·rw [J5p h0,if_pos h0,J7f 2 [] (by simp) (by simp),J5l,Jkk,J5l,show ([]:List (List UInt8)).flatten=[] from rfl,J5m (by rw [List.length_singleton]; omega),J5m (by rw [List.length_append,List.length_singleton]; omega)]
  refine ⟨rfl,by simp,fun x hx=>?_⟩
  simp only [List.mem_cons,List.not_mem_nil,or_false] at hx
  rcases hx with rfl | rfl
  ·simp
  ·rw [List.length_cons,List.length_append]; omega
 ·rw [J5o h0,if_neg h0]
  have hm:p.2.2.1.length≤30:=by omega
  have hpl:=Jx0 hs
  have fb:=Jyc (f:=Jb4 p) (fun i hi=>(Juf h hs h0 hi).2.1)
  obtain ⟨k1,_⟩:=Je5 hs
  have main:J04_1 p.2.2.1 (p.2.2.1.length:Int) 0 p []=some ((List.range p.2.2.1.length).flatMap (Jb4 p)):=by
   unfold J04_1
   have:=J5v (step:=fun (s:Int×List (List UInt8))=>J04_1_step p.2.2.1 (p.2.2.1.length:Int) s.1 p s.2) (fun i (t:List (List UInt8))=>((i:Int),t)) (fun i t=>t++Jb4 p i) (fun t=>t) p.2.2.1.length (fun i t=>t=(List.range i).flatMap (Jb4 p)) (fun i t hi ht=>?_) (fun t ht=>?_) p.2.2.1.length 0 [] (by omega) rfl
   ·rw [show ((0:Int),([]:List (List UInt8)))=(((0:Nat):Int),[]) from rfl,this]
    congr 1
    exact Jiv (I:=fun i t=>t=(List.range i).flatMap (Jb4 p)) (n:=p.2.2.1.length) (fun i t hi ht=>by rw [ht,List.range_succ,List.flatMap_append,List.flatMap_singleton]) (k:=p.2.2.1.length) (i:=0) (by omega) rfl
   ·have htb:t.length≤30 * 65:=by
     rw [ht]; refine Nat.le_trans (fb i (by omega)) (Nat.mul_le_mul_right _ (by omega))
    obtain ⟨q1,q2,q3,q4⟩:=Jdw hs h0 hi
    obtain ⟨b1,b2,b3⟩:=Juf h hs h0 hi
    obtain ⟨c1,c2⟩:=Jk6 h i
    have hkv:=k1.2 _ (J6g (z:=zPr) hi)
    have hlf:=Jdl hkv
    obtain ⟨x,x1,x2,x3⟩:=rup_eq (J7z (p.2.2.1.getD i zPr)) (by omega) (p.2.1+(i:Int)) p.1 (by omega) (p.2.2.2.1.getD i []) c1 c2
    have q5:upS (J7z (p.2.2.1.getD i zPr)) (p.2.1+(i:Int)) p.1 (p.2.2.2.1.getD i [])=J7e p i:=rfl
    have x2:=x2 (by rw [q5,q3])
    rw [q5] at x1 x2
    rw [x2] at x1
    have u1:(J7e p i).1.length=32:=by rw [q3]; exact Jj2 _ _ _ _
    have o1:=J6x p.1
    have hu:(upsN 64 (J7z (p.2.2.1.getD i zPr)) (p.2.1+(i:Int)).toNat p.1.toNat (p.2.2.2.1.getD i [])).length≤65:=by
     unfold Jb4 at b2; rw [List.length_append] at b2; omega
    refine ⟨?_,by rw [ht,List.range_succ,List.flatMap_append,List.flatMap_singleton]⟩
    dsimp only
    rw [Jui,J5p (by omega),J5m (by omega),Int.toNat_natCast,Jpr _ hkv,J5l,J5m (by omega),J5q (by omega) (by omega),x1,J5l]
    dsimp only
    rw [q3]
    dsimp only
    rw [J74,J5l,b1,J5l,J5m (by omega),Jkk,J5l,J5m (by rw [List.length_singleton]; omega),J5m (by rw [List.length_append,List.length_singleton]; rw [q3] at u1; dsimp only at u1; omega),J5m (by rw [List.length_append,List.length_singleton]; omega),show w64 ((i:Int)+1)=((i+1:Nat):Int) from by rw [J5q (by omega) (by omega)]; rfl]
    unfold Jb4
    rw [q3,List.append_assoc]
    rfl
   ·dsimp only
    rw [Jui,J5o (by omega)]
  rw [main,J5l]
  refine ⟨rfl,Nat.le_trans (fb _ (Nat.le_refl _)) ?_,fun x hx=>?_⟩
  ·have:=Nat.mul_le_mul_right 65 hm; omega
  ·obtain ⟨i,hi,hx⟩:=List.mem_flatMap.1 hx
   exact (Juf h hs h0 (List.mem_range.1 hi)).2.2 x hx
theorem Jk3 {a b:Int} {r s:List UInt8} (ha:0≤a) (ha1:a≤1099511627775) (hb:0≤b) (hb1:b≤1099511627775) (h:oneS a++r=oneS b++s):a=b∧r=s:=by
 have h1:=Jtz a ha ha1 r
 rw [h,Jtz b hb hb1 s] at h1
 injection h1 with e1 e2
 injection e2 with e2 _
 exact ⟨e1.symm,e2.symm⟩
theorem Jvc {a b r s:List UInt8} (ha:a.length≤100000) (hb:b.length≤100000) (h:txtS a++r=txtS b++s):a=b∧r=s:=by
 unfold txtS at h
 rw [List.append_assoc,List.append_assoc] at h
 obtain ⟨e1,e2⟩:=Jk3 (by omega) (by omega) (by omega) (by omega) h
 exact List.append_inj e2 (by omega)
theorem Jtl {a b:Pr} (ha:a.1.length≤100000∧a.2.1.length≤100000) (hb:b.1.length≤100000∧b.2.1.length≤100000) (h:J7z a=J7z b):a=b:=by
 unfold J7z at h
 obtain ⟨e1,e2⟩:=Jvc ha.1 hb.1 h
 have e2:txtS a.2.1++[]=txtS b.2.1++[]:=by rw [List.append_nil,List.append_nil]; exact e2
 obtain ⟨e3,_⟩:=Jvc ha.2 hb.2 e2
 exact Prod.ext e1 (Prod.ext e3 rfl)
theorem Jvw {l:List Pr} (hk:KvOk l) {p:Prf} (h:Jd3 p) (hs:J71 (J6y l) p=true) (hA:Apart (J8w l++Jdv p)):p.1=(l.length:Int)∧∀ i,i < p.2.2.1.length→p.2.2.1.getD i zPr=l.getD (p.2.1.toNat+i) zPr:=by
 obtain ⟨n1,n2,n3,n4,n5⟩:=J9m hs
 have hl:=hk.1
 have hin:(83::(oneS (l.length:Int)++J76 (J5w l))) ∈ J8w l++Jdv p:=List.mem_append_left _ (List.mem_append_right _ (List.mem_singleton.2 rfl))
 have r1:=J6l (J5w l)
 by_cases h0:p.1=0
 ·have hr:J6y l=J6y []:=by
   have hs2:=hs
   unfold J71 at hs2
   simp only [Bool.and_eq_true] at hs2
   have hs2:=hs2.2.2.2
   rw [if_pos h0,Jbi] at hs2
   exact hs2
  have hpv:(83::(oneS 0++sha [2])) ∈ J8w l++Jdv p:=by
   refine List.mem_append_right _ ?_
   unfold Jdv; rw [if_pos h0]; simp
  have e:=hA _ hin _ hpv (by
   have:J6y l=sha (83::(oneS (l.length:Int)++J76 (J5w l))):=rfl
   rw [← this,hr]
   show sha (83::(oneS (0:Int)++J76 (J5w [])))=_
   rw [show J5w []=[] from rfl,Jet])
  injection e with _ e
  obtain ⟨e1,_⟩:=Jk3 (by omega) (by omega) (by omega) (by omega) e
  exact ⟨by omega,fun i hi=>by omega⟩
 ·have hm:0 < p.2.2.1.length:=by omega
  have mem:∀ i,i < p.2.2.1.length→∀ x ∈ Jb4 p i,x ∈ J8w l++Jdv p:=fun i hi x hx=>by
   refine List.mem_append_right _ ?_
   unfold Jdv; rw [if_neg h0]
   exact List.mem_flatMap.2 ⟨i,List.mem_range.2 hi,hx⟩
  have top:∀ i,i < p.2.2.1.length→p.1=(l.length:Int)∧(J7e p i).1=J76 (J5w l):=fun i hi=>by
   obtain ⟨q1,q2,q3,q4⟩:=Jdw hs h0 hi
   have e:=hA _ (mem i hi _ (List.mem_append_right _ (List.mem_singleton.2 rfl))) _ hin (by
    have:J6y l=sha (83::(oneS (l.length:Int)++J76 (J5w l))):=rfl
    rw [← this,← q4]
    unfold Jg4
    rw [show ((p.1.toNat:Nat):Int)=p.1 from by omega])
   injection e with _ e
   exact Jk3 (by omega) (by omega) (by omega) (by omega) e
  have hn:=(top 0 hm).1
  refine ⟨hn,fun i hi=>?_⟩
  obtain ⟨q1,q2,q3,q4⟩:=Jdw hs h0 hi
  obtain ⟨k1,_⟩:=Je5 hs
  obtain ⟨c1,c2⟩:=Jk6 h i
  have e:=(top i hi).2
  rw [q3] at e
  have en:p.1.toNat=(J5w l).length:=by rw [J6b]; omega
  rw [en] at q1 q2 e
  have hlv:=Jn1 (J8w l++Jdv p) hA 64 (J5w l) (J7z (p.2.2.1.getD i zPr)) (p.2.1+(i:Int)).toNat (p.2.2.2.1.getD i []) (by rw [J6b]; omega) q1 (by rw [J6b]; omega)
   (fun x hx=>List.mem_append_left _ (List.mem_append_left _ hx)) (fun x hx=>mem i hi x (List.mem_append_left _ (by rw [en]; exact hx))) q2 c1 e
  rw [J6b] at q1
  have hg:(J5w l).getD (p.2.1+(i:Int)).toNat []=J7z (l.getD (p.2.1+(i:Int)).toNat zPr):=by
   unfold J5w
   rw [List.getD_eq_getElem?_getD,List.getD_eq_getElem?_getD,List.getElem?_map,List.getElem?_eq_getElem q1]; rfl
  rw [hg] at hlv
  rw [Jtl (k1.2 _ (J6g (z:=zPr) hi)) (hk.2 _ (J6g (z:=zPr) q1)) hlv,show (p.2.1+(i:Int)).toNat=p.2.1.toNat+i from by omega]
theorem Jqk {l:List Pr} (hk:KvOk l) {p:Prf} (h:Jd3 p) (hs:J71 (J6y l) p=true) (hA:Apart (J8w l++Jdv p)):p.1=(l.length:Int)∧p.2.1.toNat+p.2.2.1.length≤l.length∧p.2.2.1=(l.drop p.2.1.toNat).take p.2.2.1.length:=by
 obtain ⟨n1,n2,n3,n4,n5⟩:=J9m hs
 obtain ⟨e1,e2⟩:=Jvw hk h hs hA
 refine ⟨e1,by omega,?_⟩
 apply List.ext_getElem
 ·rw [List.length_take,List.length_drop]; omega
 ·intro i h1 h2
  have:=e2 i h1
  rw [List.getD_eq_getElem?_getD,List.getD_eq_getElem?_getD,List.getElem?_eq_getElem h1,List.getElem?_eq_getElem (by omega)] at this
  rw [List.getElem_take,List.getElem_drop]
  exact this
theorem Jn2 {l:List Pr} (hk:KvOk l) (hr:J7c l) {p:Prf} (h:Jd3 p) {a b:List UInt8} (hs:(J7m (J6y l) a b p).2=true) (hA:Apart (J8w l++Jdv p)):(J7m (J6y l) a b p).1=J7x l a b∧(J7x p.2.2.1 a b=J7x l a b)∧(p.2.2.1.length=0→l=[])∧(p.2.2.1.length≠0→Jeg p a=true∧Jqp p (maxS a b)=true):=by
 have hsd:=Jbs hs
 obtain ⟨n1,n2,n3,n4,n5⟩:=J9m hsd
 obtain ⟨e1,e2,e3⟩:=Jqk hk h hsd hA
 have hl:=hk.1
 unfold J7m at hs ⊢
 rw [if_pos hsd] at hs ⊢
 by_cases c:p.2.2.1.length=0
 ·have:l=[]:=List.eq_nil_of_length_eq_zero (by omega)
  have e4:p.2.2.1=[]:=List.eq_nil_of_length_eq_zero c
  rw [if_pos c,this,e4]
  exact ⟨rfl,rfl,fun _=>rfl,fun h=>absurd rfl h⟩
 ·rw [if_neg c] at hs ⊢
  split at hs
  ·rename_i hbe
   rw [if_pos hbe]
   rw [Bool.and_eq_true] at hbe
   have key:J7x p.2.2.1 a b=J7x l a b:=by
    obtain ⟨g1,g2,g3⟩:=Jow l (F:=p.2.1.toNat) (T:=p.2.1.toNat+p.2.2.1.length) (by omega) e2
    have e5:p.2.1.toNat+p.2.2.1.length - p.2.1.toNat=p.2.2.1.length:=by omega
    rw [e5] at g1 g2 g3
    rw [← e3] at g1 g2 g3
    have:=Jaa l hr a b p.2.1.toNat (p.2.1.toNat+p.2.2.1.length) (by omega) e2 ?_ ?_
    ·rw [e5,← e3] at this; exact this
    ·have hb:=hbe.1
     unfold Jeg at hb
     rw [Bool.or_eq_true,decide_eq_true_eq,g2] at hb
     rcases hb with hb | hb
     ·exact .inl (by omega)
     ·exact .inr ((J70 hr a (by omega)).1 hb)
    ·have hb:=hbe.2
     unfold Jqp at hb
     rw [Bool.or_eq_true,decide_eq_true_eq,g3,Bool.not_eq_true'] at hb
     rcases hb with hb | hb
     ·exact .inl (by omega)
     ·refine .inr ?_
      have:¬ p.2.1.toNat+p.2.2.1.length - 1 < J5t l (maxS a b):=fun h=>by
       rw [(J70 hr (maxS a b) (by omega)).2 h] at hb; cases hb
      omega
   exact ⟨key,key,fun h=>absurd h c,fun _=>hbe⟩
  ·cases hs
theorem law_TopProofs (y0 y1:List Int) (y2 y3:Int) (w0:Wf (.slice (.int .i64)) y0) (w1:Wf (.slice (.int .i64)) y1) (w2:Wf (.int .i64) y2) (w3:Wf (.int .i64) y3):J3i y0 y1 y2 y3=some true:=by
 have e8:Jaz (.int .i64)=8:=rfl
 have hp0:y0.length≤140737488355328:=by have:=w0.1; rw [e8] at this; omega
 have hp1:y1.length≤140737488355328:=by have:=w1.1; rw [e8] at this; omega
 obtain ⟨l,el,hrow⟩:=Jpi y0 hp0
 obtain ⟨m,em,hrom⟩:=Jpi y1 hp1
 obtain ⟨a,_,ea⟩:=Jnq y2
 obtain ⟨b,_,eb⟩:=Jnq y3
 generalize J6u.getD a []=x at ea
 generalize J6u.getD b []=y at eb
 have hk:=Jmf hrow
 have hrt:=Jmh hrow
 have hl:=hrow.2.1
 have hr:=hrow.1
 have hkm:=Jmf hrom
 have hlm:=hrom.2.1
 have hle:(J7x l x y).length≤l.length:=List.length_filter_le _ _
 have c1:=J90 (J6y l) x y _ (Jfx l hk (J5t l x - 1) (min (J5t l (maxS x y)+1) l.length) (by omega))
 rw [Jf5 l hrt] at c1
 have okm:=Jfx m hkm (J5t m x - 1) (min (J5t m (maxS x y)+1) m.length) (by omega)
 have c2:=J90 (J6y l) x y _ okm
 have hln:=Jit (root:=J6y l) (a:=x) (b:=y) okm
 unfold J3i
 rw [el,J5l,em,J5l,ea,J5l,eb,J5l,Je9 l hk,J5l,Jkf l hk hr,J5l,Jkf m hkm hrom.1,J5l,c1,J5l,c2,J5l]
 generalize J8x m (J5t m x - 1) (min (J5t m (maxS x y)+1) m.length)=q at okm hln
 dsimp only
 rw [Bool.not_true,J60,Jen l hr (by omega),J5l,Jkn _ (by omega),J5l,Bool.not_true,J60]
 cases hs:(J7m (J6y l) x y q).2 with
 | false=>
  rw [Bool.not_false,J74,Jee]; rfl
 | true=>
  rw [Bool.not_true,J60,Jx3 _ _ (by omega),J5l]
  by_cases e:(J7m (J6y l) x y q).1=J7x l x y
  ·rw [J5p e,Jee]; rfl
  ·obtain ⟨i1,i2,i3⟩:=Jtc l hk
   obtain ⟨p1,p2,p3⟩:=Jug okm (Jbs hs)
   obtain ⟨bb,cb,hA⟩:=Jw2 (J8w l++Jdv q) (by rw [List.length_append]; omega) (fun z hz=>by
    rcases List.mem_append.1 hz with hz | hz
    ·have:=i3 z hz; omega
    ·have:=p3 z hz; omega)
   rw [J5o e,i1,J5l,p1,J5l,J5m (by omega),cb,J5l]
   cases bb with
   | true=>rw [J74,Jee]; rfl
   | false=>exact absurd (Jn2 hk hr okm hs (hA rfl)).1 e
end Go.Ax.V
