/-
  Several queries of all kinds: each is answered as often as it was asked, at rising heights; none is late.
-/
import Derived.Test.YthhioanidhkdeaaGreatCTopManyP
namespace Go.Ax.V
open Go.Ax
set_option linter.unusedVariables false
set_option linter.unusedSimpArgs false
def J7b {τ:Type} (f:Nat→τ→τ):Nat→Nat→τ→τ
 | _,0,t=>t
 | i,k+1,t=>J7b f (i+1) k (f i t)
theorem J6s {σ ρ τ : Type} {step : σ → Option (σ ⊕ ρ)} (st : Nat → τ → σ) (f : Nat → τ → τ) (g : τ → ρ) (n : Nat) (I : Nat → τ → Prop)
    (h1 : ∀ i t, i < n → I i t → step (st i t) = some (.inl (st (i + 1) (f i t))) ∧ I (i + 1) (f i t))
    (h2 : ∀ t, I n t → step (st n t) = some (.inr (g t))) : ∀ (k i : Nat) (t : τ), i + k = n → I i t → loop step (st i t) = some (g (J7b f i k t))
  | 0, i, t, e, h => by have : i = n := by omega
                        subst this; exact J71 (h2 t h)
  | k + 1, i, t, e, h => by
    rw [J79 (h1 i t (by omega) h).1]
    exact J6s st f g n I h1 h2 k (i + 1) (f i t) (by omega) (h1 i t (by omega) h).2
theorem Nat.find_of {p:Nat→Prop} (h:∃ n,p n):∃ n,p n∧∀ m,m < n→¬ p m:=by
 obtain ⟨n,hn⟩:=h
 induction n using Nat.strongRecOn with
 | _ n ih=>
  by_cases hx:∃ m,m < n∧p m
  ·obtain ⟨m,hm,hp⟩:=hx; exact ih m hm hp
  ·exact ⟨n,hn,fun m hm hp=>hx ⟨m,hm,hp⟩⟩
def scan {ρ:Type} (bad:Nat→Option ρ) (r0:ρ):Nat→Nat→ρ
 | _,0=>r0
 | i,k+1=>match bad i with
  | some r=>r
  | none=>scan bad r0 (i+1) k
theorem Jbk {ρ:Type} {bad:Nat→Option ρ} {r0:ρ}:∀ (k i:Nat),(∀ j,i≤j→j < i+k→bad j=none)→scan bad r0 i k=r0
 | 0,i,_=>rfl
 | k+1,i,h=>by
  rw [scan,h i (Nat.le_refl _) (by omega)]
  exact Jbk k (i+1) fun j h1 h2=>h j (by omega) (by omega)
theorem Jaj {ρ:Type} {bad:Nat→Option ρ} {r0 r:ρ}:∀ (k i j:Nat),i≤j→j < i+k→(∀ j',i≤j'→j' < j→bad j'=none)→bad j=some r→scan bad r0 i k=r
 | 0,i,j,h1,h2,_,_=>by omega
 | k+1,i,j,h1,h2,h3,h4=>by
  rw [scan]
  by_cases e:i=j
  ·subst e; rw [h4]
  ·rw [h3 i (Nat.le_refl _) (by omega)]
   exact Jaj k (i+1) j (by omega) (by omega) (fun j' g1 g2=>h3 j' (by omega) g2) h4
theorem J97 {σ ρ : Type} {step : σ → Option (σ ⊕ ρ)} (st : Nat → σ) (bad : Nat → Option ρ) (r0 : ρ) (n : Nat) (h1 : ∀ i, i < n → bad i = none → step (st i) = some (.inl (st (i + 1))))
    (h2 : ∀ i r, i < n → bad i = some r → step (st i) = some (.inr r)) (h3 : step (st n) = some (.inr r0)) : ∀ (k i : Nat), i + k = n → loop step (st i) = some (scan bad r0 i k)
  | 0, i, e => by have : i = n := by omega
                  subst this; exact J71 h3
  | k + 1, i, e => by
    rw [scan]
    split
    · rename_i r hr; exact J71 (h2 i r (by omega) hr)
    · rename_i hn
      rw [J79 (h1 i (by omega) hn)]
      exact J97 st bad r0 n h1 h2 h3 k (i + 1) (by omega)
theorem J6f {α β:Type} {a:α} {k:α→Option β}:andThen (some a) k=k a:=rfl
theorem J6j {α:Type} {p:Prop} [Decidable p] {x y:Option α} (h:p):fork (decide p) x y=x:=by rw [decide_eq_true h]; rfl
theorem J6h {α:Type} {p:Prop} [Decidable p] {x y:Option α} (h:¬ p):fork (decide p) x y=y:=by rw [decide_eq_false h]; rfl
theorem J9v {α:Type} {p:Prop} [Decidable p] {x y:Option α} (h:p):fork (!decide p) x y=y:=by rw [decide_eq_true h]; rfl
theorem Jbv {α:Type} {p:Prop} [Decidable p] {x y:Option α} (h:¬ p):fork (!decide p) x y=x:=by rw [decide_eq_false h]; rfl
theorem J7m {α:Type} {x y:Option α}:fork true x y=x:=rfl
theorem J6r {α:Type} {x y:Option α}:fork false x y=y:=rfl
theorem Jha {α:Type} {b:Bool} {x y:Option α}:fork b x y=if b then x else y:=by cases b <;> rfl
theorem Jer {α:Type} (l:List α) (u:Int):cutL l 0 u=l.take u.toNat:=rfl
theorem J94 {α:Type} (l:List α) (u:Int):cutL l u (l.length:Int)=l.drop u.toNat:=by
 unfold cutL; rw [Int.toNat_natCast,List.take_of_length_le (Nat.le_refl _)]
theorem Jzu (t:Ty) (h:t.comp=true) (x:t.den):Ty.beq t x x=true:=(Ty.beq_iff t h x x).2 rfl
theorem Jem (x:List UInt8):Ty.beq (.arr 32 (.int .u8)) x x=true:=Jzu (.arr 32 (.int .u8)) rfl x
abbrev Val:=List UInt8×Int×List UInt8×Unit
def zVal:Val:=(([]:List UInt8),(0:Int),(List.replicate 32 (0:UInt8)),())
theorem Jnc:((([]:List UInt8),(0:Int),(List.replicate 32 (0:UInt8)),()):Val)=zVal:=rfl
theorem Ku (l:List (List UInt8)) (x:List UInt8) (hl:l.length≤1073741824):J1o l x=some (l.contains x):=by
 have h:Jn_1 l x (l.length:Int) 0=some (scan (fun i=>if x=l.getD i [] then some (.inl (i:Int)) else none) (.inr ()) 0 l.length):=by
  unfold Jn_1
  refine J97 (step:=fun (s:Int)=>Jn_1_step l x (l.length:Int) s) (fun i=>(i:Int)) _ _ l.length (fun i hi h=>?_) (fun i r hi h=>?_) ?_ l.length 0 (by omega)
  ·unfold Jn_1_step
   simp (disch:=omega) only [J6j,J6k,J6g,Int.toNat_natCast]
   by_cases e:x=l.getD i []
   ·rw [if_pos e] at h; cases h
   ·rw [J6h e]; rfl
  ·unfold Jn_1_step
   simp (disch:=omega) only [J6j,J6k,J6g,Int.toNat_natCast]
   by_cases e:x=l.getD i []
   ·rw [if_pos e] at h; rw [J6j e]; injection h with h; subst h; rfl
   ·rw [if_neg e] at h; cases h
  ·unfold Jn_1_step
   rw [J6h (by omega)]
 unfold J1o Jn
 rw [h,J6f]
 by_cases hx:x ∈ l
 ·have hm:∃ j,j < l.length∧x=l.getD j []:=by
   obtain ⟨j,hj,e⟩:=List.getElem_of_mem hx
   exact ⟨j,hj,by rw [List.getD_eq_getElem?_getD,List.getElem?_eq_getElem hj]; exact e.symm⟩
  obtain ⟨j,hj⟩:=Nat.find_of (p:=fun j=>j < l.length∧x=l.getD j []) hm
  rw [Jaj l.length 0 j (Nat.zero_le _) (by omega) (fun j' _ h=>?_) (if_pos hj.1.2)]
  ·simp [andThen,hx]
  ·rw [if_neg]
   intro e
   exact hj.2 j' h ⟨by omega,e⟩
 ·rw [Jbk _ _ (fun j _ h=>?_)]
  ·simp [andThen,hx]
  ·rw [if_neg]
   intro e
   apply hx
   rw [e,List.getD_eq_getElem?_getD,List.getElem?_eq_getElem (by omega:j < l.length)]
   exact List.getElem_mem _
def pow (p:Val→Bool) (l:List Val):Int:=((l.filter p).map (·.2.1)).sum
def Jcb (l:List Val):Prop:=l.length≤1000∧∀ v ∈ l,0≤v.2.1∧v.2.1≤2097152
theorem Jag (p:Val→Bool):∀ (l:List Val),(∀ v ∈ l,0≤v.2.1∧v.2.1≤2097152)→0≤pow p l∧pow p l≤2097152 * l.length
 | [],_=>by simp [pow]
 | v::l,h=>by
  have ih:=Jag p l fun w hw=>h w (List.mem_cons_of_mem _ hw)
  have hv:=h v (List.mem_cons_self)
  unfold pow at ih ⊢
  by_cases hp:p v
  ·rw [List.filter_cons_of_pos hp]; simp only [List.map_cons,List.sum_cons,List.length_cons]; omega
  ·rw [List.filter_cons_of_neg hp]; simp only [List.length_cons]; omega
theorem Jsq (p:Val→Bool) (l:List Val) {i:Nat} (h:i < l.length):pow p (l.take (i+1))=pow p (l.take i)+(if p (l.getD i zVal) then (l.getD i zVal).2.1 else 0):=by
 unfold pow
 rw [List.take_add_one,List.getElem?_eq_getElem h,List.getD_eq_getElem?_getD,List.getElem?_eq_getElem h]
 simp only [Option.toList_some,Option.getD_some,List.filter_append,List.map_append,List.sum_append]
 by_cases hp:p l[i]
 ·rw [List.filter_cons_of_pos hp]; simp [hp]
 ·rw [List.filter_cons_of_neg hp]; simp [hp]
theorem J7d {α:Type} {l:List α} {i:Nat} {z:α} (h:i < l.length):l.getD i z ∈ l:=by
 rw [List.getD_eq_getElem?_getD,List.getElem?_eq_getElem h]; exact List.getElem_mem _
theorem K14 (l:List Val) (h:Jcb l):J1g l=some (pow (fun _=>true) l):=by
 have main:J1g_1 0 l (l.length:Int) 0=some (pow (fun _=>true) l):=by
  unfold J1g_1
  have:=J6s (step:=fun (s:Int×Int)=>J1g_1_step s.1 l (l.length:Int) s.2) (fun i (_:Unit)=>(pow (fun _=>true) (l.take i),(i:Int))) (fun _ _=>()) (fun _=>pow (fun _=>true) l) l.length (fun _ _=>True) (fun i w hi _=>⟨?_,trivial⟩) (fun w _=>?_) l.length 0 () (by omega) trivial
  ·exact this
  ·unfold J1g_1_step
   simp only [Jnc]
   have b:=Jag (fun _=>true) (l.take i) fun v hv=>h.2 v (List.mem_of_mem_take hv)
   have hm:=h.2 _ (J7d (z:=zVal) hi)
   have hl:=h.1
   have t:=Jsq (fun _=>true) l hi
   rw [List.length_take] at b
   simp only [if_true] at t
   simp (disch:=omega) only [J6j,J6k,J6g,Int.toNat_natCast]
   rw [t]
   rfl
  ·unfold J1g_1_step
   rw [J6h (by omega),List.take_of_length_le (Nat.le_refl _)]
 unfold J1g
 rw [main,J6f]
theorem K11 (l:List Val) (h:Jcb l) (ns:List (List UInt8)) (hn:ns.length≤1073741824):J1f l ns=some (pow (fun v=>ns.contains v.1) l,pow (fun _=>true) l):=by
 have hl:=h.1
 have main:J1f_1 l ns 0 l (l.length:Int) 0=some (l,pow (fun v=>ns.contains v.1) l):=by
  unfold J1f_1
  have:=J6s (step:=fun (s:Int×Int)=>J1f_1_step l ns s.1 l (l.length:Int) s.2) (fun i (_:Unit)=>(pow (fun v=>ns.contains v.1) (l.take i),(i:Int))) (fun _ _=>()) (fun _=>(l,pow (fun v=>ns.contains v.1) l)) l.length (fun _ _=>True) (fun i w hi _=>⟨?_,trivial⟩) (fun w _=>?_) l.length 0 () (by omega) trivial
  ·exact this
  ·unfold J1f_1_step
   simp only [Jnc]
   have b:=Jag (fun v=>ns.contains v.1) (l.take i) fun v hv=>h.2 v (List.mem_of_mem_take hv)
   have hm:=h.2 _ (J7d (z:=zVal) hi)
   have t:=Jsq (fun v=>ns.contains v.1) l hi
   rw [List.length_take] at b
   simp (disch:=omega) only [J6j,J6k,J6g,Int.toNat_natCast,Ku _ _ hn,J6f]
   by_cases hc:ns.contains (l.getD i zVal).1
   ·rw [if_pos hc] at t
    rw [hc,J7m,t]
    rfl
   ·rw [if_neg hc] at t
    rw [Bool.not_eq_true] at hc
    rw [hc,J6r,t,Int.add_zero]
    rfl
  ·unfold J1f_1_step
   rw [J6h (by omega),List.take_of_length_le (Nat.le_refl _)]
 have b1:=Jag (fun v=>ns.contains v.1) l h.2
 have b2:=Jag (fun _=>true) l h.2
 unfold J1f
 rw [main,J6f,J6g (by show Int.natAbs (pow _ l) < _; omega),K14 l h,J6f,J6g (by omega)]
theorem Jxx (t:Int×Int) (n d:Int) (h1:0≤t.1∧t.1≤4294967296) (h2:0≤t.2∧t.2≤4294967296) (hn:0≤n∧n≤1000) (hd:0≤d∧d≤1000):J5h t n d=some (decide (t.2 * n < t.1 * d)):=by
 unfold J5h
 have b1:0≤t.2 * n∧t.2 * n≤4294967296 * 1000:=⟨Int.mul_nonneg h2.1 hn.1,Int.mul_le_mul h2.2 hn.2 hn.1 (by omega)⟩
 have b2:0≤t.1 * d∧t.1 * d≤4294967296 * 1000:=⟨Int.mul_nonneg h1.1 hd.1,Int.mul_le_mul h1.2 hd.2 hd.1 (by omega)⟩
 rw [J6k (by omega) (by omega),J6k (by omega) (by omega)]
def mayS (v:Val):Bool:=!decide (v.1=[]) && (decide ((v.1.length:Int)≤16) && (decide (1≤v.2.1) && decide (v.2.1≤1048576)))
theorem may_eq (v:Val):J60 v=some (mayS v):=by
 unfold J60 mayS
 simp only [Jha]
 split
 ·rename_i h; rw [h]; split
  ·rename_i h; rw [h]; split
   ·rename_i h; rw [h]; simp
   ·rename_i h; rw [Bool.not_eq_true] at h; rw [h]; simp
  ·rename_i h; rw [Bool.not_eq_true] at h; rw [h]; simp
 ·rename_i h; rw [Bool.not_eq_true] at h; rw [h]; simp
def okAt (l:List Val) (i:Nat):Bool:=mayS (l.getD i zVal) && (i == 0 || J6z (l.getD (i - 1) zVal).1 (l.getD i zVal).1)
def Jax (l:List Val):Bool:=(List.range l.length).all (okAt l) && (decide (1≤l.length) && decide (l.length≤5))
theorem right_eq (l:List Val) (hl:l.length≤1073741824):J0n l=some (Jax l):=by
 have main:J0n_1 l l (l.length:Int) 0=some (scan (fun i=>if okAt l i then none else some (.inl false)) (.inr l) 0 l.length):=by
  unfold J0n_1
  have step:∀ i,i < l.length→J0n_1_step l l (l.length:Int) (i:Int)=if okAt l i then some (.inl ((i+1:Nat):Int)) else some (.inr (.inl false)):=by
   intro i hi
   unfold J0n_1_step
   simp only [Jnc]
   simp (disch:=omega) only [J6j,J6k,J6g,Int.toNat_natCast,may_eq,J6f]
   unfold okAt
   by_cases hm:mayS (l.getD i zVal)
   ·rw [hm]
    rw [show (!true)=false from rfl,J6r,Bool.true_and]
    by_cases h0:i=0
    ·subst h0; rw [J6h (by omega)]; rfl
    ·rw [J6j (by omega),J6g (by omega),show Int.toNat ((i:Int) - 1)=i - 1 from by omega]
     have:(i == 0)=false:=by simp [h0]
     rw [this,Bool.false_or]
     by_cases hs:J6z (l.getD (i - 1) zVal).1 (l.getD i zVal).1
     ·rw [hs]; rfl
     ·rw [Bool.not_eq_true] at hs; rw [hs]; rfl
   ·rw [Bool.not_eq_true] at hm; rw [hm]; rfl
  refine J97 (step:=fun (s:Int)=>J0n_1_step l l (l.length:Int) s) (fun i=>(i:Int)) _ _ l.length (fun i hi h=>?_) (fun i r hi h=>?_) ?_ l.length 0 (by omega)
  ·by_cases hk:okAt l i
   ·exact (step i hi).trans (if_pos hk)
   ·rw [if_neg hk] at h; cases h
  ·by_cases hk:okAt l i
   ·rw [if_pos hk] at h; cases h
   ·rw [if_neg hk] at h; injection h with h; subst h
    exact (step i hi).trans (if_neg hk)
  ·unfold J0n_1_step
   rw [J6h (by omega)]
 unfold J0n
 rw [main,J6f]
 unfold Jax
 by_cases hall:(List.range l.length).all (okAt l)
 ·rw [Jbk _ _ (fun j _ h=>if_pos (List.all_eq_true.1 hall j (by simp; omega))),hall,Bool.true_and]
  simp only [Jha]
  by_cases h1:1≤l.length
  ·rw [decide_eq_true h1,decide_eq_true (show (1:Int)≤(l.length:Int) by omega),if_pos rfl,Bool.true_and]
   congr 1
   exact decide_eq_decide.2 (by omega)
  ·rw [decide_eq_false h1,decide_eq_false (show ¬ (1:Int)≤(l.length:Int) by omega)]; rfl
 ·rw [Bool.not_eq_true] at hall
  have:∃ j,j < l.length∧okAt l j=false:=by
   rw [List.all_eq_false] at hall
   obtain ⟨j,hj,hk⟩:=hall
   exact ⟨j,by simpa using hj,by simpa using hk⟩
  obtain ⟨j,hj⟩:=Nat.find_of this
  have hsc:scan (fun i=>if okAt l i then none else some (.inl false)) (.inr l:Bool⊕List Val) 0 l.length=.inl false:=by
   refine Jaj l.length 0 j (Nat.zero_le _) (by omega) (fun j' _ h=>if_pos ?_) (if_neg ?_)
   ·have:=hj.2 j' h
    cases hk:okAt l j' with
    | true=>rfl
    | false=>exact absurd ⟨by omega,hk⟩ this
   ·rw [hj.1.2]; simp
  rw [hall,hsc]
  rfl
theorem K09 (p:Val→Bool) (v:Val) (l:List Val):pow p (v::l)=(if p v then v.2.1 else 0)+pow p l:=by
 unfold pow
 by_cases h:p v
 ·rw [List.filter_cons_of_pos h,if_pos h]; simp
 ·rw [List.filter_cons_of_neg h,if_neg h]; simp
theorem K3o (p:Val→Bool):pow p []=0:=rfl
theorem J9t:∀ a:List UInt8,J6z a a=false
 | []=>rfl
 | x::a=>by
  rw [J6z,J9t a]
  simp
theorem J7z:∀ a b c:List UInt8,J6z a b=true→J6z b c=true→J6z a c=true
 | _,[],_,h,_=>by cases ‹List UInt8› <;> simp [J6z] at h
 | _,_::_,[],_,h=>by simp [J6z] at h
 | [],_::_,_::_,_,_=>rfl
 | x::a,y::b,z::c,h1,h2=>by
  simp only [J6z,Bool.or_eq_true,Bool.and_eq_true,decide_eq_true_eq,beq_iff_eq] at h1 h2 ⊢
  rcases h1 with h1 | ⟨rfl,h1⟩
  ·rcases h2 with h2 | ⟨rfl,h2⟩
   ·exact .inl (UInt8.lt_trans h1 h2)
   ·exact .inl h1
  ·rcases h2 with h2 | ⟨rfl,h2⟩
   ·exact .inl h2
   ·exact .inr ⟨rfl,J7z a b c h1 h2⟩
def incN (ns:List (List UInt8)):Bool:=(List.range (ns.length - 1)).all fun i=>J6z (ns.getD i []) (ns.getD (i+1) [])
theorem Joc:∀ (ns:List (List UInt8)),incN ns=true→ns.Pairwise (fun a b=>J6z a b=true)
 | [],_=>List.Pairwise.nil
 | [x],_=>List.pairwise_singleton _ _
 | x::y::ns,h=>by
  have hall:∀ i,i < ns.length+1→J6z ((x::y::ns).getD i []) ((x::y::ns).getD (i+1) [])=true:=fun i hi=>List.all_eq_true.1 h i (by simp; omega)
  have ih:=Joc (y::ns) (List.all_eq_true.2 fun i hi=>by
   have:=hall (i+1) (by simp at hi; omega)
   exact this)
  have h0:J6z x y=true:=hall 0 (by omega)
  refine List.pairwise_cons.2 ⟨fun z hz=>?_,ih⟩
  rcases List.mem_cons.1 hz with rfl | hz
  ·exact h0
  ·exact J7z _ _ _ h0 ((List.pairwise_cons.1 ih).1 z hz)
theorem K3a:∀ (ns:List (List UInt8)),ns.Pairwise (fun a b=>J6z a b=true)→incN ns=true:=by
 intro ns h
 refine List.all_eq_true.2 fun i hi=>?_
 have hi:i < ns.length - 1:=by simpa using hi
 rw [List.getD_eq_getElem?_getD,List.getD_eq_getElem?_getD,List.getElem?_eq_getElem (by omega),List.getElem?_eq_getElem (by omega)]
 exact List.pairwise_iff_getElem.1 h i (i+1) (by omega) (by omega) (by omega)
def Jo3 (l:List Val) (x:List UInt8):Val×Bool:=match l.find? (fun v=>decide (v.1=x)) with
 | some v=>(v,true)
 | none=>(zVal,false)
theorem Jph (l:List Val) (x:List UInt8):∀ (k i:Nat),i+k=l.length→scan (fun i=>if (l.getD i zVal).1=x then some (.inl (true,l.getD i zVal)) else none) (.inr zVal:(Bool×Val)⊕Val) i k =
  match (l.drop i).find? (fun v=>decide (v.1=x)) with | some v=>.inl (true,v) | none=>.inr zVal
 | 0,i,h=>by rw [List.drop_of_length_le (by omega)]; rfl
 | k+1,i,h=>by
  have hd:l.drop i=l.getD i zVal::l.drop (i+1):=by
   rw [List.drop_eq_getElem_cons (by omega),List.getD_eq_getElem?_getD,List.getElem?_eq_getElem (by omega)]; rfl
  rw [scan,hd]
  by_cases e:(l.getD i zVal).1=x
  ·rw [if_pos e,List.find?_cons_of_pos (by simpa using e)]
  ·rw [if_neg e,List.find?_cons_of_neg (by simpa using e)]
   exact Jph l x k (i+1) (by omega)
theorem Jo4 (x:List UInt8) (l:List Val) (n i:Int) (z:Val):J1t_1_step x l n i z=(fork (decide (i < n)) (need (0≤i∧i < (l.length:Int)) (fork (decide ((l.getD (Int.toNat i) zVal).1=x)) (some (.inr (.inl (true,l.getD (Int.toNat i) zVal)))) (some (.inl (w64 (i+1)))))) (some (.inr (.inr z))):Option (Int⊕((Bool×Val)⊕Val))):=rfl
theorem K31 (l:List Val) (hl:l.length≤1073741824) (x:List UInt8):J1t l x=some (Jo3 l x):=by
 have h:J1t_1 x l (l.length:Int) 0 zVal=some (scan (fun i=>if (l.getD i zVal).1=x then some (.inl (true,l.getD i zVal)) else none) (.inr zVal) 0 l.length):=by
  unfold J1t_1
  refine J97 (step:=fun (s:Int)=>J1t_1_step x l (l.length:Int) s zVal) (fun i=>(i:Int)) _ _ l.length (fun i hi h=>?_) (fun i r hi h=>?_) ?_ l.length 0 (by omega)
  ·rw [Jo4,J6j (by omega),J6g (by omega),Int.toNat_natCast,J6k (by omega) (by omega)]
   by_cases e:(l.getD i zVal).1=x
   ·rw [if_pos e] at h; cases h
   ·rw [J6h e]; rfl
  ·rw [Jo4,J6j (by omega),J6g (by omega),Int.toNat_natCast]
   by_cases e:(l.getD i zVal).1=x
   ·rw [if_pos e] at h; injection h with h; subst h; rw [J6j e]
   ·rw [if_neg e] at h; cases h
  ·unfold J1t_1_step
   rw [J6h (by omega)]
 unfold J1t
 simp only [Jnc]
 rw [h,J6f,Jph l x l.length 0 (by omega),List.drop_zero]
 unfold Jo3
 cases l.find? (fun v=>decide (v.1=x)) <;> rfl
def Dist (l:List Val):Prop:=(l.map (·.1)).Nodup
theorem K32 {l:List Val} (hd:Dist l) {v:Val} (hv:v ∈ l):Jo3 l v.1=(v,true):=by
 have:l.find? (fun w=>decide (w.1=v.1))=some v:=by
  induction l with
  | nil=>cases hv
  | cons w l ih=>
   unfold Dist at hd
   rw [List.map_cons,List.nodup_cons] at hd
   rcases List.mem_cons.1 hv with rfl | hv
   ·rw [List.find?_cons_of_pos (by simp)]
   ·rw [List.find?_cons_of_neg]
    ·exact ih hd.2 hv
    ·simp only [decide_eq_true_eq]
     intro e
     exact hd.1 (by rw [e]; exact List.mem_map_of_mem hv)
 unfold Jo3
 rw [this]
abbrev Pr:=List UInt8×List UInt8×Unit
def zPr:Pr:=([],[],())
abbrev PT:Ty:=.fld .str (.fld .str .unit)
theorem pbeq (a b:Pr):Ty.beq PT a b=decide (a=b):=by
 rw [Bool.eq_iff_iff,Ty.beq_iff PT rfl a b,decide_eq_true_eq]
theorem Jfm:∀ a b:List UInt8,J6z a b=false→a=b∨J6z b a=true
 | [],[],_=>.inl rfl
 | _::_,[],_=>.inr rfl
 | [],_::_,h=>by simp [J6z] at h
 | x::a,y::b,h=>by
  simp only [J6z,Bool.or_eq_false_iff,Bool.and_eq_false_iff,decide_eq_false_iff_not,beq_eq_false_iff_ne,ne_eq] at h
  obtain ⟨h1,h2⟩:=h
  by_cases e:x=y
  ·subst e
   rcases Jfm a b (h2.resolve_left (fun q=>q rfl)) with rfl | h
   ·exact .inl rfl
   ·exact .inr (by simp [J6z,h])
  ·right
   have:y < x:=by
    rcases UInt8.lt_or_lt_of_ne e with q | q
    ·exact absurd q h1
    ·exact q
   simp [J6z,this]
theorem Jpz:∀ a b:List UInt8,(cmpS a b < 0)↔J6z a b=true
 | [],[]=>by simp [cmpS,Lib.compareBytes,J6z]
 | [],_::_=>by simp [cmpS,Lib.compareBytes,J6z]
 | _::_,[]=>by simp [cmpS,Lib.compareBytes,J6z]
 | x::a,y::b=>by
  have ih:=Jpz a b
  unfold cmpS at ih
  unfold cmpS
  rw [Lib.compareBytes,J6z]
  by_cases h:x < y
  ·simp [h]
  ·rw [if_neg h]
   by_cases h2:y < x
   ·have hne:x≠y:=fun e=>by subst e; exact h h2
    rw [if_pos h2]; simp [h,hne]
   ·have he:x=y:=UInt8.le_antisymm (UInt8.not_lt.1 h2) (UInt8.not_lt.1 h)
    rw [if_neg h2,ih]; simp [he]
theorem Jll:∀ a b:List UInt8,(cmpS a b=0)↔a=b
 | [],[]=>by simp [cmpS,Lib.compareBytes]
 | [],_::_=>by simp [cmpS,Lib.compareBytes]
 | _::_,[]=>by simp [cmpS,Lib.compareBytes]
 | x::a,y::b=>by
  have ih:=Jll a b
  unfold cmpS at ih
  unfold cmpS
  rw [Lib.compareBytes]
  by_cases h:x < y
  ·have hne:x≠y:=fun e=>by subst e; exact UInt8.lt_irrefl _ h
   rw [if_pos h]; simp [hne]
  ·rw [if_neg h]
   by_cases h2:y < x
   ·have hne:x≠y:=fun e=>by subst e; exact h h2
    rw [if_pos h2]; simp [hne]
   ·have he:x=y:=UInt8.le_antisymm (UInt8.not_lt.1 h2) (UInt8.not_lt.1 h)
    rw [if_neg h2,ih]; simp [he]
def J6p:List Pr→List UInt8→Nat
 | [],_=>0
 | p::r,k=>bif J6z p.1 k then J6p r k+1 else 0
theorem below_le:∀ (l:List Pr) (k:List UInt8),J6p l k≤l.length
 | [],_=>Nat.le_refl _
 | p::r,k=>by
  have:=below_le r k
  unfold J6p
  cases J6z p.1 k
  ·exact Nat.zero_le _
  ·rw [cond_true,List.length_cons]; omega
theorem Jdb:∀ (l:List Pr) (k:List UInt8) (i:Nat),i < J6p l k→J6z (l.getD i zPr).1 k=true
 | [],_,i,h=>by unfold J6p at h; omega
 | p::r,k,i,h=>by
  unfold J6p at h
  cases e:J6z p.1 k with
  | false=>rw [e,cond_false] at h; omega
  | true=>
   rw [e,cond_true] at h
   match i with
   | 0=>exact e
   | j+1=>exact Jdb r k j (by omega)
theorem Jh6:∀ (l:List Pr) (k:List UInt8),J6p l k < l.length→J6z (l.getD (J6p l k) zPr).1 k=false
 | [],_,h=>by simp at h
 | p::r,k,h=>by
  unfold J6p at h ⊢
  cases e:J6z p.1 k with
  | false=>exact e
  | true=>
   rw [e,cond_true,List.length_cons] at h
   exact Jh6 r k (by omega)
theorem Jtu (l:List Pr) (k:List UInt8) (n:Nat) (hn:n≤l.length) (h1:∀ i,i < n→J6z (l.getD i zPr).1 k=true) (h2:n < l.length→J6z (l.getD n zPr).1 k=false):J6p l k=n:=by
 rcases Nat.lt_trichotomy (J6p l k) n with h | h | h
 ·have a:=h1 _ h
  rw [Jh6 l k (by omega)] at a; cases a
 ·exact h
 ·have a:=Jdb l k n h
  have b:=below_le l k
  rw [h2 (by omega)] at a; cases a
def J89 (l:List Pr):Prop:=l.Pairwise (fun a b=>J6z a.1 b.1=true)
theorem Jf3 {l:List Pr} (h:J89 l) {i j:Nat} (hij:i < j) (hj:j < l.length):J6z (l.getD i zPr).1 (l.getD j zPr).1=true:=by
 rw [List.getD_eq_getElem?_getD,List.getD_eq_getElem?_getD,List.getElem?_eq_getElem hj,List.getElem?_eq_getElem (by omega)]
 exact List.pairwise_iff_getElem.1 h i j (by omega) hj hij
theorem J8l {l:List Pr} (h:J89 l) (k:List UInt8) {i:Nat} (hi:i < l.length):J6z (l.getD i zPr).1 k=true↔i < J6p l k:=by
 refine ⟨fun hs=>?_,Jdb l k i⟩
 apply Classical.byContradiction
 intro hn
 have b:=Jh6 l k (by omega)
 rcases Nat.lt_or_ge (J6p l k) i with c | c
 ·rw [J7z _ _ _ (Jf3 h c hi) hs] at b; cases b
 ·have:J6p l k=i:=by omega
  rw [this,hs] at b; cases b
theorem Jtt (l:List Pr) (a b:List UInt8) (h:J6z a b=false):J6p l b≤J6p l a:=by
 apply Nat.le_of_not_lt
 intro hc
 have hl:=below_le l b
 have h1:=Jdb l b _ hc
 have h2:=Jh6 l a (by omega)
 rcases Jfm a b h with rfl | q
 ·rw [h1] at h2; cases h2
 ·rw [J7z _ _ _ h1 q] at h2; cases h2
def isAt (l:List Pr) (k:List UInt8):Bool:=decide (J6p l k < l.length∧(l.getD (J6p l k) zPr).1=k)
theorem Js4 {l:List Pr} (h:J89 l) (k:List UInt8):isAt l k=true↔∃ p ∈ l,p.1=k:=by
 unfold isAt
 rw [decide_eq_true_eq]
 constructor
 ·rintro ⟨h1,h2⟩
  exact ⟨_,J7d h1,h2⟩
 ·rintro ⟨p,hp,e⟩
  obtain ⟨i,hi,rfl⟩:=List.getElem_of_mem hp
  have hg:l.getD i zPr=l[i]:=by rw [List.getD_eq_getElem?_getD,List.getElem?_eq_getElem hi]; rfl
  have:J6p l k=i:=by
   refine Jtu l k i (by omega) (fun j hj=>?_) fun _=>?_
   ·rw [← e,← hg]; exact Jf3 h hj hi
   ·rw [hg,e]; exact J9t k
  rw [this,hg]; exact ⟨hi,e⟩
theorem mid_eq (i j:Nat) (h:i+j≤1073741824):w64 ((UInt64.toNat (UInt64.ofNat (UInt64.toNat (UInt64.ofNat (Int.toNat ((w64 ((i:Int)+(j:Int))) % 18446744073709551616))) >>> (Int.toNat (1:Int)))):Nat):Int)=(((i+j) / 2:Nat):Int):=by
 rw [J6k (n:=(i:Int)+(j:Int)) (by omega) (by omega)]
 have e1:Int.toNat (((i:Int)+(j:Int)) % 18446744073709551616)=i+j:=by omega
 have e2:UInt64.toNat (UInt64.ofNat (i+j))=i+j:=by rw [UInt64.toNat_ofNat']; omega
 have e3:(i+j) >>> (Int.toNat (1:Int))=(i+j) / 2:=rfl
 have e4:UInt64.toNat (UInt64.ofNat ((i+j) / 2))=(i+j) / 2:=by rw [UInt64.toNat_ofNat']; omega
 rw [e1,e2,e3,e4,J6k (by omega) (by omega)]
theorem Jp4 (p:Pr) (k:List UInt8):J4y p k=some (cmpS p.1 k):=rfl
theorem Jvw (x0:List Pr) (x1:List UInt8) (x2:Int) (x3:Int) (x4:Int):J9_1_step x0 x1 x2 x3 x4 =
  (fork (decide (x3 < x4)) (need (0≤(w64 ((UInt64.toNat (UInt64.ofNat (UInt64.toNat (UInt64.ofNat (Int.toNat ((w64 (x3+x4)) % 18446744073709551616))) >>> (Int.toNat (1:Int)))):Nat):Int))∧(w64 ((UInt64.toNat (UInt64.ofNat (UInt64.toNat (UInt64.ofNat (Int.toNat ((w64 (x3+x4)) % 18446744073709551616))) >>> (Int.toNat (1:Int)))):Nat):Int)) < (List.length x0:Int)) (andThen (J4y (List.getD x0 (Int.toNat (w64 ((UInt64.toNat (UInt64.ofNat (UInt64.toNat (UInt64.ofNat (Int.toNat ((w64 (x3+x4)) % 18446744073709551616))) >>> (Int.toNat (1:Int)))):Nat):Int))) zPr) x1) (fun u4=>fork (decide (u4 < (0:Int))) (some (.inl ((w64 ((w64 ((UInt64.toNat (UInt64.ofNat (UInt64.toNat (UInt64.ofNat (Int.toNat ((w64 (x3+x4)) % 18446744073709551616))) >>> (Int.toNat (1:Int)))):Nat):Int))+(1:Int))),x4))) (some (.inl (x3,(w64 ((UInt64.toNat (UInt64.ofNat (UInt64.toNat (UInt64.ofNat (Int.toNat ((w64 (x3+x4)) % 18446744073709551616))) >>> (Int.toNat (1:Int)))):Nat):Int)))))))) (some (.inr (x0,x1,x2,x3))):Option ((Int×Int)⊕((List Pr)×List UInt8×Int×Int))):=rfl
theorem Jpy (l:List Pr) (hr:J89 l) (hl:l.length≤1000) (k:List UInt8):∀ (m i j:Nat),j - i≤m→i≤J6p l k→J6p l k≤j→j≤l.length→
  J9_1 l k (l.length:Int) (i:Int) (j:Int)=some (l,k,(l.length:Int),(J6p l k:Int))
 | m,i,j,hm,h1,h2,h3=>by
  unfold J9_1
  by_cases c:i < j
  ·have hs:J9_1_step l k (l.length:Int) (i:Int) (j:Int)=some (.inl (if (i+j) / 2 < J6p l k then ((((i+j) / 2+1:Nat):Int),(j:Int)) else ((i:Int),(((i+j) / 2:Nat):Int)))):=by
    rw [Jvw,J6j (by omega),mid_eq i j (by omega),J6g (by omega),Int.toNat_natCast,Jp4,J6f,J6k (by omega) (by omega)]
    by_cases q:(i+j) / 2 < J6p l k
    ·rw [if_pos q,J6j ((Jpz _ _).2 (Jdb l k _ q))]; rfl
    ·rw [if_neg q,J6h (fun e=>q ((J8l hr k (by omega)).1 ((Jpz _ _).1 e)))]
   rw [J79 hs]
   match m with
   | 0=>omega
   | m+1=>
    by_cases q:(i+j) / 2 < J6p l k
    ·rw [if_pos q]
     exact Jpy l hr hl k m ((i+j) / 2+1) j (by omega) (by omega) h2 h3
    ·rw [if_neg q]
     exact Jpy l hr hl k m i ((i+j) / 2) (by omega) h1 (by omega) (by omega)
  ·have:i=J6p l k:=by omega
   subst this
   exact J71 (by rw [Jvw,J6h (by omega)])
theorem Jfe (l:List Pr) (hr:J89 l) (hl:l.length≤1000) (k:List UInt8):J4k l k=some ((J6p l k:Int),isAt l k):=by
 have hb:=below_le l k
 have h:J9 l k=some ((J6p l k:Int),isAt l k):=by
  unfold J9
  rw [show ((0:Int))=((0:Nat):Int) from rfl,Jpy l hr hl k l.length 0 l.length (by omega) (by omega) hb (Nat.le_refl _),J6f]
  simp only
  unfold isAt
  by_cases c:J6p l k < l.length
  ·rw [J6j (by omega),J6g (by omega),Jp4,J6f,Int.toNat_natCast]
   congr 2
   exact decide_eq_decide.2 ⟨fun e=>⟨c,(Jll _ _).1 e⟩,fun e=>(Jll _ _).2 e.2⟩
  ·rw [J6h (by omega),decide_eq_false (fun e=>c e.1)]
 unfold J4k
 rw [h,J6f]
theorem Jcs (l:List Pr) (hr:J89 l) (hl:l.length≤1000) (k:List UInt8):J44 l k=some (J6p l k:Int):=by
 unfold J44
 rw [Jfe l hr hl,J6f]
theorem Jg4 (l:List Pr) (hr:J89 l) (hl:l.length≤1000) (k:List UInt8):J3a l k=some (if isAt l k then ((l.getD (J6p l k) zPr).2.1,true) else ([],false)):=by
 unfold J3a
 rw [Jfe l hr hl,J6f]
 cases c:isAt l k with
 | false=>rfl
 | true=>
  have:=c
  unfold isAt at this
  rw [decide_eq_true_eq] at this
  rw [Bool.not_true,J6r,J6g (by omega),Int.toNat_natCast]; rfl
theorem Jf9 (a:Nat):(BitVec.ofInt 64 (a:Int)).toNat=a % 18446744073709551616:=by
 rw [BitVec.toNat_ofInt]; omega
theorem Jlf (a b:Nat) (ha:a < 9223372036854775808) (hb:b < 9223372036854775808):band (a:Int) (b:Int)=((a &&& b:Nat):Int):=by
 unfold band
 have hle:a &&& b≤a:=Nat.and_le_left
 rw [BitVec.toNat_and,Jf9,Jf9,Nat.mod_eq_of_lt (by omega),Nat.mod_eq_of_lt (by omega)]
 exact J6k (by omega) (by omega)
theorem Jvv (a b:Nat) (h:(a ||| b) < 9223372036854775808):bor (a:Int) (b:Int)=((a ||| b:Nat):Int):=by
 unfold bor
 have h1:a≤a ||| b:=Nat.left_le_or
 have h2:b≤a ||| b:=Nat.right_le_or
 rw [BitVec.toNat_or,Jf9,Jf9,Nat.mod_eq_of_lt (by omega),Nat.mod_eq_of_lt (by omega)]
 exact J6k (by omega) (by omega)
theorem Jvk (a:Nat) (ha:a < 9223372036854775808):band (a:Int) 127=((a % 128:Nat):Int):=by
 rw [show (127:Int)=((127:Nat):Int) from rfl,Jlf a 127 ha (by omega),show (127:Nat)=2 ^ 7 - 1 from rfl,Nat.and_two_pow_sub_one_eq_mod]
theorem Jxu (a c k:Nat) (h:a < 2 ^ k):a ||| (c * 2 ^ k)=a+c * 2 ^ k:=by
 rw [Nat.or_comm,← Nat.shiftLeft_eq,← Nat.shiftLeft_add_eq_or_of_lt h,Nat.add_comm]
theorem K1h (a:Nat) (h:a < 128):bor (a:Int) 128=((a+128:Nat):Int):=by
 have e:=Jxu a 1 7 h
 rw [show (128:Int)=((128:Nat):Int) from rfl,Jvv a 128 (by simp only [Nat.one_mul] at e; rw [show (128:Nat)=2 ^ 7 from rfl,e]; omega)]
 simp only [Nat.one_mul] at e
 rw [show (128:Nat)=2 ^ 7 from rfl,e]
theorem Js5 (a k:Nat) (hk:k≤64):ishr (a:Int) k=((a / 2 ^ k:Nat):Int):=by
 unfold ishr
 rw [Nat.min_eq_left hk,Int.fdiv_eq_ediv_of_nonneg _ (by exact_mod_cast Nat.zero_le _)]
 exact_mod_cast rfl
theorem Kw (a k:Nat) (hk:k≤64) (h:a * 2 ^ k < 9223372036854775808):ishl (a:Int) k=((a * 2 ^ k:Nat):Int):=by
 unfold ishl
 rw [Nat.min_eq_left hk]
 have e:(a:Int) * 2 ^ k=((a * 2 ^ k:Nat):Int):=by exact_mod_cast rfl
 rw [e]
 exact J6k (by omega) (by omega)
theorem u8_and127 (b:UInt8):(b &&& 127).toNat=b.toNat % 128:=by
 rw [UInt8.toNat_and,show (127:UInt8).toNat=2 ^ 7 - 1 from rfl,Nat.and_two_pow_sub_one_eq_mod]
theorem J9b (a:Nat):UInt8.ofNat (Int.toNat ((a:Int) % 256))=UInt8.ofNat a:=by
 rw [show Int.toNat ((a:Int) % 256)=a % 256 from by omega]
 apply UInt8.toNat_inj.1
 simp
def putF:Nat→Nat→List UInt8
 | 0,n=>[UInt8.ofNat n]
 | f+1,n=>if n < 128 then [UInt8.ofNat n] else UInt8.ofNat (n % 128+128)::putF f (n / 128)
def oneS (n:Int):List UInt8:=if 0≤n∧n≤1099511627775 then putF 6 n.toNat else []
theorem Jmq:∀ (f n:Nat),(putF f n).length≤f+1
 | 0,_=>by simp [putF]
 | f+1,n=>by
  rw [putF]; split
  ·simp
  ·have:=Jmq f (n / 128); simp; omega
theorem J7y (n:Int):(oneS n).length≤7:=by
 unfold oneS; split
 ·exact Jmq 6 _
 ·simp
theorem Jsm:∀ (f n:Nat) (acc:List UInt8),n < 128 ^ (f+1)→n < 9223372036854775808→acc.length≤1000 - f→f≤10→∃ (m:Nat) (l:List UInt8),J1c_1 (n:Int) acc=some ((m:Int),acc++l)∧l++[UInt8.ofNat m]=putF f n∧(acc++l).length≤1000
 | 0,n,acc,h,h2,ha,_=>by
  refine ⟨n,[],?_,rfl,by simp; omega⟩
  rw [List.append_nil]
  unfold J1c_1
  refine J71 ?_
  show J1c_1_step (n:Int) acc=_
  unfold J1c_1_step
  rw [J6h (by omega)]
 | f+1,n,acc,h,h2,ha,hf=>by
  by_cases hn:n < 128
  ·refine ⟨n,[],?_,by rw [putF,if_pos hn]; rfl,by simp; omega⟩
   rw [List.append_nil]
   unfold J1c_1
   refine J71 ?_
   show J1c_1_step (n:Int) acc=_
   unfold J1c_1_step
   rw [J6h (by omega)]
  ·have hs:J1c_1_step (n:Int) acc=some (.inl (((n / 128:Nat):Int),acc++[UInt8.ofNat (n % 128+128)])):=by
    unfold J1c_1_step
    rw [J6j (by omega),J6g (by simp; omega),Jvk n (by omega),K1h _ (by omega),J9b,show Int.toNat 7=7 from rfl,Js5 n 7 (by omega)]
   have hd:n / 128 < 128 ^ (f+1):=by
    rw [Nat.div_lt_iff_lt_mul (by omega)]
    have:128 ^ (f+1+1)=128 ^ (f+1) * 128:=Nat.pow_succ ..
    omega
   obtain ⟨m,l,h4,h5,h6⟩:=Jsm f (n / 128) (acc++[UInt8.ofNat (n % 128+128)]) hd (by omega) (by simp; omega) (by omega)
   refine ⟨m,UInt8.ofNat (n % 128+128)::l,?_,?_,?_⟩
   ·unfold J1c_1 at h4 ⊢
    rw [J79 (s':=(((n / 128:Nat):Int),acc++[UInt8.ofNat (n % 128+128)])) hs,h4]
    simp
   ·rw [putF,if_neg hn,← h5]; rfl
   ·simpa using h6
theorem Jxt (n:Int):J1c n=some (oneS n):=by
 unfold J1c oneS
 by_cases h0:n < 0
 ·rw [J6j h0,if_neg (by omega)]
 ·rw [J6h h0]
  by_cases h1:1099511627775 < n
  ·rw [J6j h1,if_neg (by omega)]
  ·rw [J6h h1,if_pos (by omega)]
   obtain ⟨k,rfl⟩:=Int.eq_ofNat_of_zero_le (show 0≤n by omega)
   obtain ⟨m,l,h2,h3,h4⟩:=Jsm 6 k [] (by omega) (by omega) (by simp) (by omega)
   rw [h2,J6f]
   simp only [List.nil_append] at h4 ⊢
   rw [J6g (by simp; omega),J9b,h3]
   rfl
def putS (l:List Int):List UInt8:=l.flatMap oneS
theorem Jmr:∀ (l:List Int),(putS l).length≤7 * l.length
 | []=>by simp [putS]
 | n::l=>by
  have:=Jmr l
  have h:=J7y n
  unfold putS at this ⊢
  rw [List.flatMap_cons,List.length_append,List.length_cons]; omega
theorem Jb9 {α β:Type} (f:α→List β) (l:List α) (z:α) {i:Nat} (h:i < l.length):(l.take (i+1)).flatMap f=(l.take i).flatMap f++f (l.getD i z):=by
 rw [List.take_add_one,List.flatMap_append,List.getD_eq_getElem?_getD]
 congr 1
 rw [List.getElem?_eq_getElem h]
 simp only [Option.toList_some,Option.getD_some,List.flatMap_cons,List.flatMap_nil,List.append_nil]
theorem put_eq (l:List Int) (hl:l.length≤100000000):J0q l=some (putS l):=by
 have main:J0q_1 l (l.length:Int) 0 []=some (putS l):=by
  unfold J0q_1
  have:=J6s (step:=fun (s:Int×List UInt8)=>J0q_1_step l (l.length:Int) s.1 s.2) (fun i (_:Unit)=>((i:Int),putS (l.take i))) (fun _ _=>()) (fun _=>putS l) l.length (fun _ _=>True) (fun i w hi _=>⟨?_,trivial⟩) (fun w _=>?_) l.length 0 () (by omega) trivial
  ·exact this
  ·show J0q_1_step l (l.length:Int) (i:Int) (putS (l.take i))=_
   unfold J0q_1_step
   have b:=Jmr (l.take i)
   have b2:=J7y (l.getD i 0)
   rw [List.length_take] at b
   rw [J6j (by omega),J6g (by omega),Jxt,J6f,Int.toNat_natCast,J6g (by omega),J6k (by omega) (by omega)]
   unfold putS
   rw [Jb9 oneS l 0 hi]
   rfl
  ·show J0q_1_step l (l.length:Int) (l.length:Int) (putS (l.take l.length))=_
   unfold J0q_1_step
   rw [J6h (by omega),List.take_of_length_le (Nat.le_refl _)]
 unfold J0q
 rw [main,J6f]
theorem Jx1 (l:List (List UInt8)) (hl:l.length≤1000000) (h:∀ x ∈ l,x.length=32):J18 l=some l.flatten:=by
 have hlen:∀ i,((l.take i).flatten).length≤32 * l.length:=by
  intro i
  have:∀ (m:List (List UInt8)),(∀ x ∈ m,x.length=32)→m.flatten.length=32 * m.length:=by
   intro m
   induction m with
   | nil=>intro _; rfl
   | cons a m ih=>intro hm; rw [List.flatten_cons,List.length_append,ih (fun x hx=>hm x (List.mem_cons_of_mem _ hx)),hm a List.mem_cons_self,List.length_cons]; omega
  rw [this _ fun x hx=>h x (List.mem_of_mem_take hx),List.length_take]; omega
 have main:J18_1 l (l.length:Int) 0 []=some l.flatten:=by
  unfold J18_1
  have:=J6s (step:=fun (s:Int×List UInt8)=>J18_1_step l (l.length:Int) s.1 s.2) (fun i (_:Unit)=>((i:Int),(l.take i).flatten)) (fun _ _=>()) (fun _=>l.flatten) l.length (fun _ _=>True) (fun i w hi _=>⟨?_,trivial⟩) (fun w _=>?_) l.length 0 () (by omega) trivial
  ·exact this
  ·show J18_1_step l (l.length:Int) (i:Int) (l.take i).flatten=_
   unfold J18_1_step
   have b:=hlen i
   have hm:(l.getD i (List.replicate 32 0)).length=32:=h _ (by rw [List.getD_eq_getElem?_getD,List.getElem?_eq_getElem hi]; exact List.getElem_mem _)
   have e:=Jb9 (fun x:List UInt8=>x) l (List.replicate 32 0) hi
   simp only [List.flatMap_id'] at e
   rw [J6j (by omega),J6g (by omega),Int.toNat_natCast,J6g (by omega),J6k (by omega) (by omega),e]
   rfl
  ·show J18_1_step l (l.length:Int) (l.length:Int) (l.take l.length).flatten=_
   unfold J18_1_step
   rw [J6h (by omega),List.take_of_length_le (Nat.le_refl _)]
 unfold J18
 rw [main,J6f]
abbrev Rdr:=List UInt8×Bool×Unit
def K10 (n:Nat) (r:Rdr):List UInt8×Rdr:=if r.2.1 then ([],(r.1,true,())) else if r.1.length < n then ([],(r.1,true,())) else (r.1.take n,(r.1.drop n,false,()))
theorem Jra (n:Nat) (hn:n≤1000) (r:Rdr):J3g (n:Int) r=some (K10 n r):=by
 obtain ⟨l,b,u⟩:=r
 unfold J3g K10
 cases b with
 | true=>rfl
 | false=>
  simp only [J6r,Bool.false_eq_true,if_false]
  by_cases h:l.length < n
  ·rw [J6j (by omega),if_pos h]
  ·rw [J6h (by omega),if_neg h,J6g (by omega),J6g (by omega)]
   have e1:cutL l 0 (n:Int)=l.take n:=by rw [Jer,Int.toNat_natCast]
   have e2:cutL l (n:Int) (l.length:Int)=l.drop n:=by rw [J94,Int.toNat_natCast]
   rw [e1,e2]
def numF:Nat→Nat→Nat→List UInt8→Int×Rdr
 | 0,_,_,l=>(0,l,true,())
 | k+1,i,acc,[]=>(0,[],true,())
 | k+1,i,acc,b::l=>if b.toNat < 128 then (if 1099511627775 < acc+b.toNat * 128 ^ i∨(b=0∧0 < i) then (0,l,true,()) else (((acc+b.toNat * 128 ^ i:Nat):Int),l,false,()))
   else numF k (i+1) (acc+(b.toNat % 128) * 128 ^ i) l
def numS (r:Rdr):Int×Rdr:=if r.2.1 then (0,(r.1,true,())) else numF 6 0 0 r.1
theorem Jsk:∀ (k i acc:Nat) (l:List UInt8),i+k=6→acc < 128 ^ i→
  (match Jb_1 (acc:Int) ((7 * i:Nat):Int) (l,false,()) with | some (.inl o)=>some (o.1,o.2) | some (.inr o)=>some ((0:Int),(o.1,true,())) | none=>none)=some (numF k i acc l)
 | 0,i,acc,l,hi,ha=>by
  have:i=6:=by omega
  subst this
  have:Jb_1 (acc:Int) ((7 * 6:Nat):Int) (l,false,())=some (.inr (l,false,())):=by
   unfold Jb_1
   refine J71 ?_
   show Jb_1_step (acc:Int) ((7 * 6:Nat):Int) (l,false,())=_
   unfold Jb_1_step
   rw [J6h (by omega)]
  rw [this]; rfl
 | k+1,i,acc,[],hi,ha=>by
  have:Jb_1 (acc:Int) ((7 * i:Nat):Int) ([],false,())=some (.inl (0,([],true,()))):=by
   unfold Jb_1
   refine J71 ?_
   show Jb_1_step (acc:Int) ((7 * i:Nat):Int) ([],false,())=_
   unfold Jb_1_step
   rw [J6j (by omega),show (1:Int)=((1:Nat):Int) from rfl,Jra 1 (by omega),J6f]
   rfl
  rw [this]; rfl
 | k+1,i,acc,b::l,hi,ha=>by
  have hp:128 ^ i=2 ^ (7 * i):=by rw [Nat.pow_mul]
  have hb:=b.toNat_lt
  have hpi:128 ^ i≤128 ^ 5:=Nat.pow_le_pow_right (by omega) (by omega)
  have hpow:128 ^ (i+1)=128 ^ i * 128:=Nat.pow_succ ..
  have hm:(b.toNat % 128) * 128 ^ i≤127 * 128 ^ i:=Nat.mul_le_mul_right _ (by omega)
  have e:bor (acc:Int) (ishl ((UInt8.toNat (b &&& 127):Nat):Int) (7 * i))=((acc+(b.toNat % 128) * 128 ^ i:Nat):Int):=by
   rw [u8_and127,Kw _ _ (by omega) (by rw [← hp]; omega),hp]
   have ho:=Jxu acc (b.toNat % 128) (7 * i) (by rw [← hp]; exact ha)
   rw [Jvv _ _ (by rw [ho,← hp]; omega),ho]
  have ht:K10 1 (b::l,false,())=([b],(l,false,())):=by
   unfold K10
   rw [if_neg (by simp),if_neg (by simp)]; rfl
  have step:∀ r,Jb_1_step (acc:Int) ((7 * i:Nat):Int) (b::l,false,())=some r↔(if b.toNat < 128 then (if 1099511627775 < acc+b.toNat * 128 ^ i then some (.inr (.inr (l,false,()))) else if b=0 then (if 0 < i then some (.inr (.inr (l,false,()))) else some (.inr (.inl (((acc+b.toNat * 128 ^ i:Nat):Int),l,false,())))) else some (.inr (.inl (((acc+b.toNat * 128 ^ i:Nat):Int),l,false,())))) else some (.inl (((acc+(b.toNat % 128) * 128 ^ i:Nat):Int),((7 * (i+1):Nat):Int),(l,false,()))))=some r:=by
   intro r
   unfold Jb_1_step
   rw [J6j (by omega),show (1:Int)=((1:Nat):Int) from rfl,Jra 1 (by omega),J6f,ht]
   simp only [List.length_cons,List.length_nil,Int.toNat_zero,List.getD_cons_zero,Int.toNat_natCast,e]
   rw [J6h (by omega),J6g (by omega),J6g (by omega),J6k (by omega) (by omega)]
   by_cases h1:b.toNat < 128
   ·have hlt:b < 128:=UInt8.lt_iff_toNat_lt.2 h1
    rw [J6j hlt,if_pos h1,Nat.mod_eq_of_lt h1]
    by_cases h2:1099511627775 < acc+b.toNat * 128 ^ i
    ·rw [J6j (by omega),if_pos h2]
    ·rw [J6h (by omega),if_neg h2]
     by_cases h3:b=0
     ·rw [J6j h3,if_pos h3]
      by_cases h4:0 < i
      ·rw [J6j (by omega),if_pos h4]
      ·rw [J6h (by omega),if_neg h4]
     ·rw [J6h h3,if_neg h3]
   ·have hlt:¬ b < 128:=fun h=>h1 (UInt8.lt_iff_toNat_lt.1 h)
    rw [J6h hlt,if_neg h1,show ((7 * i:Nat):Int)+7=((7 * (i+1):Nat):Int) from by omega]
  rw [numF]
  by_cases h1:b.toNat < 128
  ·rw [if_pos h1]
   have go:∀ r,(if 1099511627775 < acc+b.toNat * 128 ^ i then some (.inr (.inr (l,false,()))) else if b=0 then (if 0 < i then some (.inr (.inr (l,false,()))) else some (.inr (.inl (((acc+b.toNat * 128 ^ i:Nat):Int),l,false,())))) else some (.inr (.inl (((acc+b.toNat * 128 ^ i:Nat):Int),l,false,()))))=some (.inr r:(Int×Int×Rdr)⊕((Int×Rdr)⊕Rdr))→
     Jb_1 (acc:Int) ((7 * i:Nat):Int) (b::l,false,())=some r:=by
    intro r hr
    unfold Jb_1
    refine J71 ?_
    refine (step _).2 ?_
    rw [if_pos h1]; exact hr
   by_cases h2:1099511627775 < acc+b.toNat * 128 ^ i
   ·rw [go (.inr (l,false,())) (if_pos h2),if_pos (Or.inl h2)]
   ·by_cases h3:b=0∧0 < i
    ·rw [go (.inr (l,false,())) (by rw [if_neg h2,if_pos h3.1,if_pos h3.2]),if_pos (Or.inr h3)]
    ·rw [go (.inl (((acc+b.toNat * 128 ^ i:Nat):Int),l,false,())) (by
      rw [if_neg h2]
      by_cases h4:b=0
      ·rw [if_pos h4,if_neg (fun h=>h3 ⟨h4,h⟩)]
      ·rw [if_neg h4]),if_neg (fun h=>h.elim h2 h3)]
  ·rw [if_neg h1,← Jsk k (i+1) (acc+(b.toNat % 128) * 128 ^ i) l (by omega) (by omega)]
   have hs:Jb_1_step (acc:Int) ((7 * i:Nat):Int) (b::l,false,())=some (.inl (((acc+(b.toNat % 128) * 128 ^ i:Nat):Int),((7 * (i+1):Nat):Int),(l,false,()))):=(step _).2 (by rw [if_neg h1])
   unfold Jb_1
   rw [J79 hs]
theorem number_eq (r:Rdr):Jb r=some (numS r):=by
 obtain ⟨l,b,u⟩:=r
 unfold Jb numS
 cases b with
 | true=>
  have:Jb_1 0 0 (l,true,())=some (.inl (0,(l,true,()))):=by
   unfold Jb_1
   refine J71 ?_
   show Jb_1_step 0 0 (l,true,())=_
   unfold Jb_1_step
   rw [J6j (by omega),show (1:Int)=((1:Nat):Int) from rfl,Jra 1 (by omega),J6f]
   rfl
  rw [show ((l,true,u):Rdr)=(l,true,()) from rfl,this]; rfl
 | false=>
  have:=Jsk 6 0 0 l rfl (by decide)
  rw [if_neg (by simp),← this]
  show andThen (Jb_1 0 0 (l,false,())) _=match Jb_1 0 0 (l,false,()) with | some (.inl o)=>_ | some (.inr o)=>_ | none=>_
  cases Jb_1 0 0 (l,false,()) with
  | none=>rfl
  | some o=>cases o <;> rfl
theorem Jl2 {n:Nat} (h:n < 128):∀ f,putF f n=[UInt8.ofNat n]
 | 0=>rfl
 | f+1=>by rw [putF,if_pos h]
theorem Jsj:∀ (f k i acc n:Nat) (rest:List UInt8),i+k=6→(0 < i→1≤n)→acc+n * 128 ^ i≤1099511627775→acc < 128 ^ i→k≤f+1→(n < 128→1≤k)→numF k i acc (putF f n++rest)=(((acc+n * 128 ^ i:Nat):Int),rest,false,())
 | f,k,i,acc,n,rest,hi,hn,hb,ha,hk,h1=>by
  by_cases hs:n < 128
  ·rw [Jl2 hs f]
   obtain ⟨k,rfl⟩:∃ k',k=k'+1:=⟨k - 1,by have:=h1 hs; omega⟩
   show numF (k+1) i acc (UInt8.ofNat n::rest)=_
   have hb':(UInt8.ofNat n).toNat=n:=by rw [UInt8.toNat_ofNat']; omega
   rw [numF,hb',if_pos hs,if_neg]
   rintro (h | ⟨h,h0⟩)
   ·omega
   ·have:=hn h0
    rw [← UInt8.toNat_inj,hb'] at h
    have:n=0:=h
    omega
  ·have hpow:128 ^ (i+1)=128 ^ i * 128:=Nat.pow_succ ..
   have hi6:i < 5:=by
    rcases Nat.lt_or_ge i 5 with h | h
    ·exact h
    ·have:128 ^ 5≤128 ^ i:=Nat.pow_le_pow_right (by omega) h
     have:128 * 128 ^ i≤n * 128 ^ i:=Nat.mul_le_mul_right _ (by omega)
     omega
   obtain ⟨k,rfl⟩:∃ k',k=k'+1:=⟨k - 1,by omega⟩
   obtain ⟨f,rfl⟩:∃ f',f=f'+1:=⟨f - 1,by omega⟩
   rw [putF,if_neg hs,List.cons_append]
   have hb':(UInt8.ofNat (n % 128+128)).toNat=n % 128+128:=by rw [UInt8.toNat_ofNat']; omega
   rw [numF,hb',if_neg (by omega),show (n % 128+128) % 128=n % 128 from by omega]
   have he:acc+n % 128 * 128 ^ i+n / 128 * 128 ^ (i+1)=acc+n * 128 ^ i:=by
    have hn2:n * 128 ^ i=(n % 128+128 * (n / 128)) * 128 ^ i:=by congr 1; omega
    rw [hpow,hn2,Nat.add_mul,Nat.add_assoc]; congr 2; rw [Nat.mul_comm (128 ^ i) 128,← Nat.mul_assoc,Nat.mul_comm (n / 128) 128]
   have hm:(n % 128) * 128 ^ i≤127 * 128 ^ i:=Nat.mul_le_mul_right _ (by omega)
   rw [Jsj f k (i+1) _ (n / 128) rest (by omega) (fun _=>by omega) (by rw [he]; exact hb) (by omega) (by omega) (fun _=>by omega),he]
theorem Jxr (n:Int) (h0:0≤n) (h1:n≤1099511627775) (rest:List UInt8):numS (oneS n++rest,false,())=(n,rest,false,()):=by
 unfold numS oneS
 rw [if_neg (by simp),if_pos ⟨h0,h1⟩]
 have:=Jsj 6 6 0 0 n.toNat rest rfl (fun h=>by omega) (by omega) (by decide) (by omega) (fun _=>by omega)
 rw [this]
 congr 1
 omega
abbrev Hdr:=Int×Int×List UInt8×List UInt8×List UInt8×List UInt8×Unit
def J8j (h:Hdr):Bool:=decide (1≤h.1) && (decide (h.1≤16) && (decide (0≤h.2.1) && decide (h.2.1≤1073741824)))
theorem Jd1 (h:Hdr):J39 h=some (J8j h):=by
 unfold J39 J8j
 simp only [Jha]
 cases decide (1≤h.1) <;> cases decide (h.1≤16) <;> cases decide (0≤h.2.1) <;> simp
theorem Jc5 (h:Hdr):J8j h=true↔(1≤h.1∧h.1≤16)∧0≤h.2.1∧h.2.1≤1073741824:=by
 unfold J8j
 simp only [Bool.and_eq_true,decide_eq_true_eq]
 exact ⟨fun ⟨a,b,c,d⟩=>⟨⟨a,b⟩,c,d⟩,fun ⟨⟨a,b⟩,c,d⟩=>⟨a,b,c,d⟩⟩
def J8v (h:Hdr):Prop:=h.2.2.1.length=32∧h.2.2.2.1.length=32∧h.2.2.2.2.1.length=32∧h.2.2.2.2.2.1.length=32
def Jfu (h:Hdr):List UInt8:=oneS h.1++(oneS h.2.1++(h.2.2.1++(h.2.2.2.1++(h.2.2.2.2.1++h.2.2.2.2.2.1))))
def Jcc (h:Hdr):List UInt8:=if J8j h then Jfu h else []
theorem Jzw (h:Hdr) (hh:J8v h):J5r h=some (Jcc h):=by
 obtain ⟨a,b,c,d⟩:=hh
 unfold J5r Jcc
 rw [Jd1,J6f]
 cases J8j h with
 | false=>rfl
 | true=>
  rw [show (!true)=false from rfl,J6r,put_eq _ (by simp),J6f,Jx1 _ (by simp) (by
   intro x hx
   simp only [List.mem_cons,List.not_mem_nil,or_false] at hx
   rcases hx with rfl | rfl | rfl | rfl <;> assumption),J6f]
  have l1:=Jmr [h.1,h.2.1]
  simp only [List.length_cons,List.length_nil] at l1
  rw [J6g (by simp; omega),if_pos rfl]
  congr 1
  simp [putS,Jfu,List.flatMap_cons]
theorem Jrj (h:Hdr) (hh:J8v h):(Jfu h).length≤142:=by
 obtain ⟨a,b,c,d⟩:=hh
 have:=J7y h.1
 have:=J7y h.2.1
 unfold Jfu
 simp only [List.length_append]; omega
def zHdr:Hdr:=(0,0,List.replicate 32 0,List.replicate 32 0,List.replicate 32 0,List.replicate 32 0,())
theorem doneS (r:Rdr):J3f r=some (!r.2.1 && decide (r.1=[])):=by
 unfold J3f
 obtain ⟨l,b,u⟩:=r
 cases b with
 | true=>rfl
 | false=>
  show some (decide ((l.length:Int)=0))=some (true && decide (l=[]))
  rw [Bool.true_and]
  congr 1
  exact decide_eq_decide.2 ⟨fun h=>List.eq_nil_of_length_eq_zero (by omega),fun h=>by subst h; rfl⟩
set_option maxRecDepth 100000
def rotr (x:UInt32) (n:Nat):UInt32:=UInt32.ofNat (x.toNat <<< (32 - n)) ||| UInt32.ofNat (x.toNat >>> n)
def shr (x:UInt32) (n:Nat):UInt32:=UInt32.ofNat (x.toNat >>> n)
def K2p (b:List UInt8) (i k:Nat):UInt32:=UInt32.ofNat (UInt32.toNat (UInt32.ofNat (UInt8.toNat (List.getD b i 0))) <<< k)
def word (b:List UInt8) (i:Nat):UInt32:=((K2p b (4 * i) 24 ||| K2p b (4 * i+1) 16) ||| K2p b (4 * i+2) 8) ||| UInt32.ofNat (UInt8.toNat (List.getD b (4 * i+3) 0))
def Jr8 (b:List UInt8) (i:Nat) (w:List UInt32):List UInt32:=w.set i (word b i)
def Jr9 (i:Nat) (w:List UInt32):List UInt32:=
 w.set i (((w.getD (i - 16) 0+((rotr (w.getD (i - 15) 0) 7 ^^^ rotr (w.getD (i - 15) 0) 18) ^^^ shr (w.getD (i - 15) 0) 3))+w.getD (i - 7) 0)+((rotr (w.getD (i - 2) 0) 17 ^^^ rotr (w.getD (i - 2) 0) 19) ^^^ shr (w.getD (i - 2) 0) 10))
def Jeh (b:List UInt8):List UInt32:=J7b Jr9 16 48 (J7b (Jr8 b) 0 16 (List.replicate 64 0))
abbrev W8:=UInt32×UInt32×UInt32×UInt32×UInt32×UInt32×UInt32×UInt32
def J8e (k w:List UInt32) (i:Nat) (s:W8):W8:=
 match s with
 | (a,b,c,d,e,f,g,h)=>
  let one:=(((h+((rotr e 6 ^^^ rotr e 11) ^^^ rotr e 25))+((e &&& f) ^^^ ((~~~e) &&& g)))+k.getD i 0)+w.getD i 0
  (one+(((rotr a 2 ^^^ rotr a 13) ^^^ rotr a 22)+(((a &&& b) ^^^ (a &&& c)) ^^^ (b &&& c))),a,b,c,d+one,e,f,g)
def Jue (s:W8):List UInt32:=[s.1,s.2.1,s.2.2.1,s.2.2.2.1,s.2.2.2.2.1,s.2.2.2.2.2.1,s.2.2.2.2.2.2.1,s.2.2.2.2.2.2.2]
def tup8 (h:List UInt32):W8:=(h.getD 0 0,h.getD 1 0,h.getD 2 0,h.getD 3 0,h.getD 4 0,h.getD 5 0,h.getD 6 0,h.getD 7 0)
def addS (v:List UInt32) (i:Nat) (h:List UInt32):List UInt32:=h.set i (h.getD i 0+v.getD i 0)
def mixS (k:List UInt32) (b:List UInt8) (h:List UInt32):List UInt32:=
 J7b (addS (Jue (J7b (J8e k (Jeh b)) 0 64 (tup8 h)))) 0 8 h
def kS:List UInt32:=[1116352408,1899447441,3049323471,3921009573,961987163,1508970993,2453635748,2870763221,3624381080,310598401,607225278,1426881987,1925078388,2162078206,2614888103,3248222580,3835390401,4022224774,264347078,604807628,770255983,1249150122,1555081692,1996064986,2554220882,2821834349,2952996808,3210313671,3336571891,3584528711,113926993,338241895,666307205,773529912,1294757372,1396182291,1695183700,1986661051,2177026350,2456956037,2730485921,2820302411,3259730800,3345764771,3516065817,3600352804,4094571909,275423344,430227734,506948616,659060556,883997877,958139571,1322822218,1537002063,1747873779,1955562222,2024104815,2227730452,2361852424,2428436474,2756734187,3204031479,3329325298]
def h0S:List UInt32:=[1779033703,3144134277,1013904242,2773480762,1359893119,2600822924,528734635,1541459225]
def Jb6 (n:UInt64) (i:Nat):UInt8:=UInt8.ofNat (UInt64.toNat (UInt64.ofNat (UInt64.toNat n >>> (8 * i))))
def bitsOf (b:List UInt8):UInt64:=UInt64.ofNat b.length * 8
def padS (b:List UInt8):List UInt8:=
 b++128::(List.replicate ((b.length+8) / 64 * 64+55 - b.length) 0++[Jb6 (bitsOf b) 7,Jb6 (bitsOf b) 6,Jb6 (bitsOf b) 5,Jb6 (bitsOf b) 4,Jb6 (bitsOf b) 3,Jb6 (bitsOf b) 2,Jb6 (bitsOf b) 1,Jb6 (bitsOf b) 0])
def Jbq:Nat→List UInt8→List UInt32→List UInt32
 | 0,_,h=>h
 | n+1,l,h=>Jbq n (l.drop 64) (mixS kS (l.take 64) h)
def outB (x:UInt32) (j:Nat):UInt8:=UInt8.ofNat (UInt32.toNat (UInt32.ofNat (UInt32.toNat x >>> (24 - 8 * j))))
def outS (h:List UInt32):List UInt8:=h.flatMap fun x=>[outB x 0,outB x 1,outB x 2,outB x 3]
def sha (b:List UInt8):List UInt8:=outS (Jbq ((b.length+8) / 64+1) (padS b) h0S)
theorem right7 (x:UInt32):J0m x 7=some (rotr x 7):=rfl
theorem K40 (x:UInt32):J0m x 18=some (rotr x 18):=rfl
theorem K3z (x:UInt32):J0m x 17=some (rotr x 17):=rfl
theorem K41 (x:UInt32):J0m x 19=some (rotr x 19):=rfl
theorem right6 (x:UInt32):J0m x 6=some (rotr x 6):=rfl
theorem K3x (x:UInt32):J0m x 11=some (rotr x 11):=rfl
theorem K43 (x:UInt32):J0m x 25=some (rotr x 25):=rfl
theorem right2 (x:UInt32):J0m x 2=some (rotr x 2):=rfl
theorem K3y (x:UInt32):J0m x 13=some (rotr x 13):=rfl
theorem K42 (x:UInt32):J0m x 22=some (rotr x 22):=rfl
theorem Jpj (b:List UInt8) (hb:b.length=64) (z w:List UInt32) {i:Nat} (hi:i < 16) :
  J0a_1_step b (i:Int) z w=some (.inl (((i+1:Nat):Int),Jr8 b i w)):=by
 unfold J0a_1_step
 have e0:Int.toNat (4 * (i:Int))=4 * i:=by omega
 have e1:Int.toNat (4 * (i:Int)+1)=4 * i+1:=by omega
 have e2:Int.toNat (4 * (i:Int)+2)=4 * i+2:=by omega
 have e3:Int.toNat (4 * (i:Int)+3)=4 * i+3:=by omega
 simp (disch:=omega) only [J6j,J6k,J6g,hb,e0,e1,e2,e3,Int.toNat_natCast]
 rfl
theorem K0x (b:List UInt8) (hb:b.length=64) (z:List UInt32):J0a_1 b 0 z z=some (z,J7b (Jr8 b) 0 16 z):=by
 unfold J0a_1
 refine J6s (fun i w=>((i:Int),w)) (Jr8 b) (fun w=>(z,w)) 16 (fun _ _=>True) (fun i w hi _=>⟨Jpj b hb z w hi,trivial⟩) (fun w _=>?_) 16 0 z rfl trivial
 unfold J0a_1_step
 rfl
theorem Jpk (z w:List UInt32) {i:Nat} (h1:16≤i) (hi:i < 64) :
  J0a_2_step (i:Int) z w=some (.inl (((i+1:Nat):Int),Jr9 i w)):=by
 unfold J0a_2_step
 have e0:Int.toNat ((i:Int) - 15)=i - 15:=by omega
 have e1:Int.toNat ((i:Int) - 2)=i - 2:=by omega
 have e2:Int.toNat ((i:Int) - 16)=i - 16:=by omega
 have e3:Int.toNat ((i:Int) - 7)=i - 7:=by omega
 simp (disch:=omega) only [J6j,J6k,J6g,e0,e1,e2,e3,Int.toNat_natCast,right7,K40,K3z,K41,J6f]
 rfl
theorem K0y (z w:List UInt32):J0a_2 16 z w=some (z,J7b Jr9 16 48 w):=by
 unfold J0a_2
 refine J6s (fun i w=>((i:Int),w)) Jr9 (fun w=>(z,w)) 64 (fun i _=>16≤i) (fun i w hi h=>⟨Jpk z w h hi,by omega⟩) (fun w _=>?_) 48 16 w rfl (Nat.le_refl _)
 unfold J0a_2_step
 rfl
theorem Jz1 (b:List UInt8) (hb:b.length=64):J0a b=some (Jeh b):=by
 unfold J0a
 rw [K0x b hb,J6f,K0y,J6f,Jeh]
theorem Jxl (k w hz:List UInt32) (s:W8) {i:Nat} (hi:i < 64) :
  J00_1_step s.1 s.2.1 s.2.2.1 s.2.2.2.1 s.2.2.2.2.1 s.2.2.2.2.2.1 s.2.2.2.2.2.2.1 s.2.2.2.2.2.2.2 (i:Int) hz k w =
   some (.inl ((J8e k w i s).1,(J8e k w i s).2.1,(J8e k w i s).2.2.1,(J8e k w i s).2.2.2.1,(J8e k w i s).2.2.2.2.1,(J8e k w i s).2.2.2.2.2.1,(J8e k w i s).2.2.2.2.2.2.1,(J8e k w i s).2.2.2.2.2.2.2,((i+1:Nat):Int))):=by
 obtain ⟨a,b,c,d,e,f,g,h⟩:=s
 unfold J00_1_step
 simp (disch:=omega) only [J6j,J6k,J6g,Int.toNat_natCast,right6,K3x,K43,right2,K3y,K42,J6f]
 rfl
theorem mix_1 (k w hz:List UInt32) (s:W8):J00_1 s.1 s.2.1 s.2.2.1 s.2.2.2.1 s.2.2.2.2.1 s.2.2.2.2.2.1 s.2.2.2.2.2.2.1 s.2.2.2.2.2.2.2 0 hz k w =
   some ((J7b (J8e k w) 0 64 s).1,(J7b (J8e k w) 0 64 s).2.1,(J7b (J8e k w) 0 64 s).2.2.1,(J7b (J8e k w) 0 64 s).2.2.2.1,(J7b (J8e k w) 0 64 s).2.2.2.2.1,(J7b (J8e k w) 0 64 s).2.2.2.2.2.1,(J7b (J8e k w) 0 64 s).2.2.2.2.2.2.1,(J7b (J8e k w) 0 64 s).2.2.2.2.2.2.2,hz,k):=by
 unfold J00_1
 refine J6s (fun i (s:W8)=>(s.1,s.2.1,s.2.2.1,s.2.2.2.1,s.2.2.2.2.1,s.2.2.2.2.2.1,s.2.2.2.2.2.2.1,s.2.2.2.2.2.2.2,(i:Int))) (J8e k w)
  (fun (s:W8)=>(s.1,s.2.1,s.2.2.1,s.2.2.2.1,s.2.2.2.2.1,s.2.2.2.2.2.1,s.2.2.2.2.2.2.1,s.2.2.2.2.2.2.2,hz,k)) 64 (fun _ _=>True) (fun i s hi _=>⟨Jxl k w hz s hi,trivial⟩) (fun s _=>?_) 64 0 s rfl trivial
 unfold J00_1_step
 rfl
theorem mix_2 (v h k:List UInt32):J00_2 v 0 h k=some (J7b (addS v) 0 8 h,k):=by
 unfold J00_2
 refine J6s (fun i w=>((i:Int),w)) (addS v) (fun w=>(w,k)) 8 (fun _ _=>True) (fun i w hi _=>⟨?_,trivial⟩) (fun w _=>?_) 8 0 h rfl trivial
 ·unfold J00_2_step
  simp (disch:=omega) only [J6j,J6k,J6g,Int.toNat_natCast]
  rfl
 ·unfold J00_2_step
  rfl
theorem mix_eq (b:List UInt8) (hb:b.length=64) (h k:List UInt32):J00 b h k=some (mixS k b h,k):=by
 unfold J00
 rw [Jz1 b hb,J6f]
 have:=mix_1 k (Jeh b) h (tup8 h)
 simp only [tup8] at this
 rw [show (Int.toNat (0:Int))=0 from rfl,show (Int.toNat (1:Int))=1 from rfl,show (Int.toNat (2:Int))=2 from rfl,show (Int.toNat (3:Int))=3 from rfl,show (Int.toNat (4:Int))=4 from rfl,
  show (Int.toNat (5:Int))=5 from rfl,show (Int.toNat (6:Int))=6 from rfl,show (Int.toNat (7:Int))=7 from rfl,this,J6f,mix_2,J6f]
 rfl
set_option maxRecDepth 100000
theorem Jvu (n:Nat) (h:n≤1073741824):J5s (n:Int)=some (((n+8) / 64+1:Nat):Int):=by
 unfold J5s
 have e:Int.tdiv ((n:Int)+8) 64=(((n+8) / 64:Nat):Int):=by
  rw [Int.tdiv_eq_ediv_of_nonneg (by omega)]; omega
 simp (disch:=omega) only [J6k,e]
 rfl
theorem Jr5 {α:Type} (a l:List α) (k:Nat) (x:α):(a++l).set (a.length+k) x=a++l.set k x:=by
 rw [List.set_append_right _ _ (by omega)]
 congr 2; omega
theorem Jqv (x0:UInt64) (n:Nat) (hn:8≤n) (hn2:n≤2147483648) (l:List UInt8) (hl:l.length=n):J1n_1 x0 0 l=some (J7b (fun i (w:List UInt8)=>w.set (n - 1 - i) (Jb6 x0 i)) 0 8 l):=by
 unfold J1n_1
 refine J6s (fun i w=>((i:Int),w)) (fun i (w:List UInt8)=>w.set (n - 1 - i) (Jb6 x0 i)) (fun w=>w) 8 (fun _ w=>w.length=n) (fun i w hi hw=>⟨?_,by simp [hw]⟩) (fun w _=>?_) 8 0 l rfl hl
 ·unfold J1n_1_step
  have e0:Int.toNat ((n:Int) - 1 - (i:Int))=n - 1 - i:=by omega
  have e1:Int.toNat (8 * (i:Int))=8 * i:=by omega
  simp (disch:=omega) only [J6j,J6k,J6g,hw,e0,e1]
  rfl
 ·unfold J1n_1_step
  rfl
theorem Jy1 (b:List UInt8) (hb:b.length≤1073741824):J1n b=some (padS b):=by
 unfold J1n
 rw [Jvu _ hb,J6f]
 have hN:w64 ((((b.length+8) / 64+1:Nat):Int) * 64)=(((b.length+8) / 64 * 64+64:Nat):Int):=by
  rw [J6k (by omega) (by omega)]; omega
 generalize hn:(b.length+8) / 64 * 64+64=n at hN
 rw [hN,J6g (by omega),Int.toNat_natCast,List.length_replicate,List.take_of_length_le (by omega),List.drop_replicate]
 have hz:n - b.length=((b.length+8) / 64 * 64+55 - b.length)+1+8:=by omega
 have hl:(b++List.replicate (n - b.length) (0:UInt8)).length=n:=by simp; omega
 rw [hl,J6g (by omega),Int.toNat_natCast]
 have hbits:UInt64.ofNat (Int.toNat ((b.length:Int) % 18446744073709551616)) * 8=bitsOf b:=by
  unfold bitsOf; congr 2; omega
 rw [hbits,Jqv (bitsOf b) n (by omega) (by omega) _ (by rw [List.length_set,hl]),J6f]
 congr 1
 have h1:(b++List.replicate (n - b.length) (0:UInt8)).set b.length 128=(b++128::List.replicate ((b.length+8) / 64 * 64+55 - b.length) 0)++[0,0,0,0,0,0,0,0]:=by
  rw [hz]
  generalize (b.length+8) / 64 * 64+55 - b.length=z
  have h:=Jr5 b (List.replicate ((z+8)+1) (0:UInt8)) 0 128
  rw [Nat.add_zero b.length] at h
  rw [show z+1+8=(z+8)+1 from by omega,h,List.replicate_succ,List.set_cons_zero,← List.replicate_append_replicate,List.append_assoc]
  rfl
 rw [h1]
 have hA:(b++128::List.replicate ((b.length+8) / 64 * 64+55 - b.length) (0:UInt8)).length=n - 8:=by simp; omega
 generalize hA2:(b++128::List.replicate ((b.length+8) / 64 * 64+55 - b.length) (0:UInt8))=A at hA
 have ix:∀ i,i < 8→n - 1 - i=A.length+(7 - i):=by intro i hi; omega
 simp only [J7b]
 rw [ix 0 (by omega),ix (0+1) (by omega),ix (0+1+1) (by omega),ix (0+1+1+1) (by omega),ix (0+1+1+1+1) (by omega),ix (0+1+1+1+1+1) (by omega),ix (0+1+1+1+1+1+1) (by omega),ix (0+1+1+1+1+1+1+1) (by omega)]
 simp only [Jr5]
 unfold padS
 rw [show ∀ x:List UInt8,b++128::(List.replicate ((b.length+8) / 64 * 64+55 - b.length) 0++x)=A++x from fun x=>by rw [← hA2]; simp]
 rfl
theorem Jqu (b:List UInt8):(padS b).length=64 * ((b.length+8) / 64+1):=by
 unfold padS
 simp
 omega
theorem Jl7 {α:Type} {f:Nat→List α→List α} (h:∀ i w,(f i w).length=w.length):∀ (k i:Nat) (w:List α),(J7b f i k w).length=w.length
 | 0,_,_=>rfl
 | k+1,i,w=>by rw [J7b,Jl7 h k,h]
theorem Jsh (k:List UInt32) (b:List UInt8) (h:List UInt32):(mixS k b h).length=h.length:=Jl7 (fun i w=>by simp [addS]) _ _ _
theorem Jbr:∀ (n:Nat) (l:List UInt8) (h:List UInt32),(Jbq n l h).length=h.length
 | 0,_,_=>rfl
 | n+1,l,h=>by rw [Jbq,Jbr n,Jsh]
theorem sum_1 (out:List UInt8):∀ (n:Nat) (l:List UInt8),l.length=64 * n→l.length≤2147483648→∀ h,J0b_1 l out h kS=some (out,Jbq n l h)
 | 0,l,hl,_,h=>by
  unfold J0b_1
  refine J71 ?_
  unfold J0b_1_step
  show fork (decide ((0:Int) < (l.length:Int))) _ _=_
  rw [J6h (by omega)]; rfl
 | n+1,l,hl,hl2,h=>by
  have hm:=mix_eq (l.take 64) (by rw [List.length_take]; omega) h kS
  have hs:J0b_1_step l out h kS=some (.inl (l.drop 64,mixS kS (l.take 64) h,kS)):=by
   unfold J0b_1_step
   rw [J6j (by omega),J6g (by omega),show cutL l (0:Int) (64:Int)=l.take 64 from rfl,hm,J6f,J6g (by omega)]
   have:cutL l (64:Int) (l.length:Int)=l.drop 64:=by
    unfold cutL; rw [Int.toNat_natCast,List.take_of_length_le (Nat.le_refl _)]; rfl
   rw [this]
  have ih:=sum_1 out n (l.drop 64) (by rw [List.length_drop]; omega) (by rw [List.length_drop]; omega) (mixS kS (l.take 64) h)
  unfold J0b_1 at ih ⊢
  rw [J79 (s':=(l.drop 64,mixS kS (l.take 64) h,kS)) hs,ih]
  rfl
def Joy (x:UInt32) (i:Nat) (acc:List UInt8):List UInt8:=J7b (fun j (acc:List UInt8)=>acc.set (4 * i+j) (outB x j)) 0 4 acc
theorem sum_2 (x:UInt32) (h:List UInt32) (z acc:List UInt8) {i:Nat} (hi:i < 8):J0b_2 (i:Int) x h (i:Int) 0 z acc=some (h,(i:Int),z,Joy x i acc):=by
 unfold J0b_2
 refine J6s (fun j acc=>((j:Int),acc)) (fun j (acc:List UInt8)=>acc.set (4 * i+j) (outB x j)) (fun acc=>(h,(i:Int),z,acc)) 4 (fun _ _=>True) (fun j acc hj _=>⟨?_,trivial⟩) (fun acc _=>?_) 4 0 acc rfl trivial
 ·unfold J0b_2_step
  have e0:Int.toNat (4 * (i:Int)+(j:Int))=4 * i+j:=by omega
  have e1:Int.toNat (24 - 8 * (j:Int))=24 - 8 * j:=by omega
  simp (disch:=omega) only [J6j,J6k,J6g,e0,e1]
  rfl
 ·unfold J0b_2_step
  rfl
theorem sum_3 (h:List UInt32) (z acc:List UInt8):J0b_3 h 0 z acc=some (z,J7b (fun i acc=>Joy (h.getD i 0) i acc) 0 8 acc):=by
 unfold J0b_3
 refine J6s (fun i acc=>(h,(i:Int),z,acc)) (fun i acc=>Joy (h.getD i 0) i acc) (fun acc=>(z,acc)) 8 (fun _ _=>True) (fun i acc hi _=>⟨?_,trivial⟩) (fun acc _=>?_) 8 0 acc rfl trivial
 ·show J0b_3_step h (i:Int) z acc=_
  unfold J0b_3_step
  rw [J6j (by omega),J6g (by omega),Int.toNat_natCast,sum_2 _ _ _ _ hi,J6f]
  rw [J6k (by show (-9223372036854775808:Int)≤(i:Int)+1; omega) (by show (i:Int)+1≤9223372036854775807; omega)]
  rfl
 ·unfold J0b_3_step
  rfl
theorem K3l (a b c d e f g i:UInt32):J7b (fun j acc=>Joy (List.getD [a,b,c,d,e,f,g,i] j 0) j acc) 0 8 (List.replicate 32 (0:UInt8))=outS [a,b,c,d,e,f,g,i]:=by kernel_rfl
theorem out_eq (h:List UInt32) (hh:h.length=8):J7b (fun i acc=>Joy (h.getD i 0) i acc) 0 8 (List.replicate 32 (0:UInt8))=outS h:=by
 match h,hh with
 | [a,b,c,d,e,f,g,i],_=>exact K3l a b c d e f g i
theorem Kk:J63=some h0S:=by kernel_rfl
theorem Jzp:J62=some kS:=by kernel_rfl
theorem sum_eq (b:List UInt8) (hb:b.length≤1073741824):J0b b=some (sha b):=by
 unfold J0b
 rw [Kk,J6f,Jzp,J6f,Jy1 b hb,J6f,sum_1 _ _ _ (Jqu b) (by rw [Jqu]; omega),J6f]
 simp only [sum_3,J6f]
 rw [out_eq _ (by rw [Jbr]; rfl)]
 rfl
theorem J86 (b:List UInt8):(sha b).length=32:=by
 unfold sha outS
 have:(Jbq ((b.length+8) / 64+1) (padS b) h0S).length=8:=by rw [Jbr]; rfl
 generalize Jbq ((b.length+8) / 64+1) (padS b) h0S=h at this
 match h,this with
 | [a,b,c,d,e,f,g,i],_=>rfl
theorem getD_take {α:Type} (l:List (List α)) {i:Nat} (h:i < l.length):(l.take i).flatten++l.getD i []=(l.take (i+1)).flatten:=by
 rw [List.take_add_one,List.flatten_append,List.getD_eq_getElem?_getD,List.getElem?_eq_getElem h]
 simp
theorem Jaz {α:Type} (l:List (List α)) (i:Nat):((l.take i).flatten).length≤l.flatten.length:=by
 conv=>rhs; rw [← List.take_append_drop i l]
 rw [List.flatten_append,List.length_append]; omega
theorem J81 (t:UInt8) (l:List (List UInt8)) (h:l.flatten.length≤1073741823) (hl:l.length≤1073741823):Jw t l=some (sha (t::l.flatten)):=by
 unfold Jw
 have:∀ z,Jw_1 l (l.length:Int) 0 z [t]=some (z,t::l.flatten):=by
  intro z
  unfold Jw_1
  have:=J6s (step:=fun (s:Int×List UInt8)=>Jw_1_step l (l.length:Int) s.1 z s.2) (fun i (_:Unit)=>((i:Int),t::(l.take i).flatten)) (fun _ _=>()) (fun _=>(z,t::l.flatten)) l.length (fun _ _=>True) (fun i w hi _=>⟨?_,trivial⟩) (fun w _=>?_) l.length 0 () (by omega) trivial
  ·exact this
  ·unfold Jw_1_step
   have e:=getD_take l hi
   have le:=Jaz l (i+1)
   rw [← e,List.length_append] at le
   simp (disch:=omega) only [J6j,J6k,J6g,Int.toNat_natCast]
   rw [J6g (by rw [List.length_cons]; omega),List.cons_append,e]
   rfl
  ·unfold Jw_1_step
   rw [J6h (by omega),List.take_of_length_le (Nat.le_refl _)]
 rw [this,J6f]
 simp only []
 rw [sum_eq _ (by rw [List.length_cons]; omega),J6f]
set_option maxRecDepth 100000
theorem J8o (x:UInt32) (n:Nat):UInt32.ofNat (x.toNat >>> n) ||| UInt32.ofNat (x.toNat <<< (32 - n))=rotr x n:=UInt32.or_comm _ _
theorem turn7 (x:UInt32):Jt x 7=some (rotr x 7):=congrArg some (J8o x 7)
theorem turn18 (x:UInt32):Jt x 18=some (rotr x 18):=congrArg some (J8o x 18)
theorem turn17 (x:UInt32):Jt x 17=some (rotr x 17):=congrArg some (J8o x 17)
theorem turn19 (x:UInt32):Jt x 19=some (rotr x 19):=congrArg some (J8o x 19)
theorem turn6 (x:UInt32):Jt x 6=some (rotr x 6):=congrArg some (J8o x 6)
theorem turn11 (x:UInt32):Jt x 11=some (rotr x 11):=congrArg some (J8o x 11)
theorem turn25 (x:UInt32):Jt x 25=some (rotr x 25):=congrArg some (J8o x 25)
theorem turn2 (x:UInt32):Jt x 2=some (rotr x 2):=congrArg some (J8o x 2)
theorem turn13 (x:UInt32):Jt x 13=some (rotr x 13):=congrArg some (J8o x 13)
theorem turn22 (x:UInt32):Jt x 22=some (rotr x 22):=congrArg some (J8o x 22)
theorem K0f (b:List UInt8) (hb:b.length=64) (k h v z:List UInt32):J5_1 b k 0 h v z=some (k,h,v,J7b (Jr8 b) 0 16 z):=by
 unfold J5_1
 refine J6s (fun i w=>((i:Int),w)) (Jr8 b) (fun w=>(k,h,v,w)) 16 (fun _ _=>True) (fun i w hi _=>⟨?_,trivial⟩) (fun w _=>?_) 16 0 z rfl trivial
 ·unfold J5_1_step
  have e0:Int.toNat (4 * (i:Int))=4 * i:=by omega
  have e1:Int.toNat (4 * (i:Int)+1)=4 * i+1:=by omega
  have e2:Int.toNat (4 * (i:Int)+2)=4 * i+2:=by omega
  have e3:Int.toNat (4 * (i:Int)+3)=4 * i+3:=by omega
  simp (disch:=omega) only [J6j,J6k,J6g,hb,e0,e1,e2,e3,Int.toNat_natCast]
  rfl
 ·unfold J5_1_step
  rfl
theorem K0g (k h v z:List UInt32):J5_2 k 16 h v z=some (k,h,v,J7b Jr9 16 48 z):=by
 unfold J5_2
 refine J6s (fun i w=>((i:Int),w)) Jr9 (fun w=>(k,h,v,w)) 64 (fun i _=>16≤i) (fun i w hi hh=>⟨?_,by omega⟩) (fun w _=>?_) 48 16 z rfl (Nat.le_refl _)
 ·unfold J5_2_step
  have e0:Int.toNat ((i:Int) - 15)=i - 15:=by omega
  have e1:Int.toNat ((i:Int) - 2)=i - 2:=by omega
  have e2:Int.toNat ((i:Int) - 16)=i - 16:=by omega
  have e3:Int.toNat ((i:Int) - 7)=i - 7:=by omega
  simp (disch:=omega) only [J6j,J6k,J6g,e0,e1,e2,e3,Int.toNat_natCast,turn7,turn18,turn17,turn19,J6f]
  rfl
 ·unfold J5_2_step
  rfl
theorem K0h (k h v w:List UInt32) (hk:k.length=64) (s:W8):J5_3 k 0 h v w (Jue s)=some (h,v,Jue (J7b (J8e k w) 0 64 s)):=by
 unfold J5_3
 refine J6s (fun i (s:W8)=>((i:Int),Jue s)) (J8e k w) (fun s=>(h,v,Jue s)) 64 (fun _ _=>True) (fun i s hi _=>⟨?_,trivial⟩) (fun s _=>?_) 64 0 s rfl trivial
 ·obtain ⟨a,b,c,d,e,f,g,x⟩:=s
  unfold J5_3_step
  simp (disch:=omega) only [J6j,J6k,J6g,hk,Int.toNat_natCast,turn6,turn11,turn25,turn2,turn13,turn22,J6f]
  rw [show J8e k w i (a,b,c,d,e,f,g,x)=((((((x+((rotr e 6 ^^^ rotr e 11) ^^^ rotr e 25))+((e &&& f) ^^^ ((~~~e) &&& g)))+k.getD i 0)+w.getD i 0)+((rotr a 2 ^^^ rotr a 13) ^^^ rotr a 22))+(((a &&& b) ^^^ (a &&& c)) ^^^ (b &&& c)),a,b,c,
   d+((((x+((rotr e 6 ^^^ rotr e 11) ^^^ rotr e 25))+((e &&& f) ^^^ ((~~~e) &&& g)))+k.getD i 0)+w.getD i 0),e,f,g) from by simp only [J8e,UInt32.add_assoc]]
  rfl
 ·unfold J5_3_step
  rfl
theorem K0i (h z v:List UInt32):J5_4 0 h z v=some (J7b (addS v) 0 8 h,z):=by
 unfold J5_4
 refine J6s (fun i w=>((i:Int),w)) (addS v) (fun w=>(w,z)) 8 (fun _ _=>True) (fun i w hi _=>⟨?_,trivial⟩) (fun w _=>?_) 8 0 h rfl trivial
 ·unfold J5_4_step
  simp (disch:=omega) only [J6j,J6k,J6g,Int.toNat_natCast]
  rfl
 ·unfold J5_4_step
  rfl
theorem Juf (h:List UInt32) (hh:h.length=8):Jue (tup8 h)=h:=by
 match h,hh with
 | [a,b,c,d,e,f,g,i],_=>rfl
theorem Jy9 (h:List UInt32) (hh:h.length=8) (b:List UInt8) (hb:b.length=64) (k:List UInt32) (hk:k.length=64):J5 h b k=some (mixS k b h):=by
 unfold J5
 simp only [K0f b hb,K0g,J6f]
 have h3:=K0h k h (List.replicate 8 0) (Jeh b) hk (tup8 h)
 rw [Juf h hh] at h3
 rw [show J7b Jr9 16 48 (J7b (Jr8 b) 0 16 (List.replicate 64 0))=Jeh b from by rw [Jeh],h3,J6f]
 simp only [K0i,J6f]
 rw [mixS]
theorem K2c (n:Nat):Int.tmod (n:Int) 64=((n % 64:Nat):Int):=by
 rw [Int.tmod_eq_emod_of_nonneg (by omega)]; omega
theorem rsum_1 (b:List UInt8) (hb:b.length≤1073741824) (out:List UInt8) (k h:List UInt32) :
  J8_1 b out k h (b++[128])=some (b,out,k,h,(b++[128])++List.replicate ((b.length+8) / 64 * 64+55 - b.length) 0):=by
 unfold J8_1
 generalize hz:(b.length+8) / 64 * 64+55 - b.length=z
 have:=J6s (step:=fun s=>J8_1_step b out k h s) (fun i (_:Unit)=>(b++[128])++List.replicate i (0:UInt8)) (fun _ _=>()) (fun _=>(b,out,k,h,(b++[128])++List.replicate z 0)) z (fun _ _=>True) (fun i w hi _=>⟨?_,trivial⟩) (fun w _=>?_) z 0 () (by omega) trivial
 ·simpa using this
 ·unfold J8_1_step
  rw [K2c,Jbv (by simp; omega),J6g (by simp; omega),List.append_assoc,List.append_assoc,List.append_assoc,← List.replicate_succ']
 ·unfold J8_1_step
  rw [K2c,J9v (by simp; omega)]
theorem Jv6 {j:Nat} (h:j < 8):(UInt64.ofNat (Int.toNat ((8 * ((7:Int) - (j:Int))) % 18446744073709551616))).toNat=8 * (7 - j):=by
 have:Int.toNat ((8 * ((7:Int) - (j:Int))) % 18446744073709551616)=8 * (7 - j):=by omega
 rw [this,UInt64.toNat_ofNat']; omega
theorem rsum_2 (b:List UInt8) (hb:b.length≤1073741824) (out m:List UInt8) (hm:m.length≤1073741924) (k h:List UInt32) :
  J8_2 b 7 out k h m=some (out,k,h,J7b (fun j (l:List UInt8)=>l++[Jb6 (bitsOf b) (7 - j)]) 0 8 m):=by
 unfold J8_2
 refine J6s (step:=fun (s:Int×List UInt8)=>J8_2_step b s.1 out k h s.2) (fun j l=>((7:Int) - (j:Int),l)) (fun j (l:List UInt8)=>l++[Jb6 (bitsOf b) (7 - j)]) (fun l=>(out,k,h,l)) 8 (fun j l=>l.length=m.length+j) (fun j l hj hl=>⟨?_,by simp [hl]; omega⟩) (fun l _=>?_) 8 0 m rfl rfl
 ·unfold J8_2_step
  have hbits:UInt64.ofNat (Int.toNat ((8 * (b.length:Int)) % 18446744073709551616))=bitsOf b:=by
   rw [show Int.toNat ((8 * (b.length:Int)) % 18446744073709551616)=b.length * 8 from by omega,UInt64.ofNat_mul]; rfl
  simp (disch:=omega) only [J6j,J6k,hbits]
  rw [J6g (by omega),J6g (by simp; omega),Jv6 hj,Int.toNat_natCast]
  rw [show (7:Int) - (j:Int) - 1=7 - ((j+1:Nat):Int) from by omega]
  rfl
 ·unfold J8_2_step
  rfl
theorem K4b (l out:List UInt8) (n:Nat) (hl:l.length=64 * n) (hn:64 * n≤2147483648) (h:List UInt32) (hh:h.length=8) :
  J8_3 l 0 out kS h=some (out,J7b (fun j h=>mixS kS ((l.drop (64 * j)).take 64) h) 0 n h):=by
 unfold J8_3
 refine J6s (step:=fun (s:Int×List UInt32)=>J8_3_step l s.1 out kS s.2) (fun j h=>(((64 * j:Nat):Int),h)) (fun j h=>mixS kS ((l.drop (64 * j)).take 64) h) (fun h=>(out,h)) n (fun j h=>h.length=8) (fun j h hj hh=>⟨?_,by rw [Jsh,hh]⟩) (fun l _=>?_) n 0 h (by omega) hh
 ·unfold J8_3_step
  have hc:cutL l ((64 * j:Nat):Int) (((64 * j:Nat):Int)+64)=(l.drop (64 * j)).take 64:=by
   unfold cutL
   rw [Int.toNat_natCast,show Int.toNat (((64 * j:Nat):Int)+64)=64 * j+64 from by omega,List.drop_take]
   congr 1; omega
  simp (disch:=omega) only [J6j,J6k,J6g,hc]
  rw [Jy9 h hh _ (by rw [List.length_take,List.length_drop]; omega) _ rfl,J6f]
  rfl
 ·unfold J8_3_step
  rw [J6h (by omega)]
theorem Jhx (l:List UInt8):∀ (n j:Nat) (h:List UInt32),J7b (fun j h=>mixS kS ((l.drop (64 * j)).take 64) h) j n h=Jbq n (l.drop (64 * j)) h
 | 0,_,_=>rfl
 | n+1,j,h=>by
  rw [J7b,Jhx l n (j+1),Jbq,List.drop_drop]
  rfl
def Jj6 (x:UInt32) (i:Nat) (acc:List UInt8):List UInt8:=(((acc.set (4 * i) (outB x 0)).set (4 * i+1) (outB x 1)).set (4 * i+2) (outB x 2)).set (4 * i+3) (outB x 3)
theorem rsum_4 (h:List UInt32) (z acc:List UInt8):J8_4 h 0 z acc=some (z,J7b (fun i acc=>Jj6 (h.getD i 0) i acc) 0 8 acc):=by
 unfold J8_4
 refine J6s (step:=fun (s:Int×List UInt8)=>J8_4_step h s.1 z s.2) (fun i acc=>((i:Int),acc)) (fun i acc=>Jj6 (h.getD i 0) i acc) (fun acc=>(z,acc)) 8 (fun _ _=>True) (fun i acc hi _=>⟨?_,trivial⟩) (fun acc _=>?_) 8 0 acc rfl trivial
 ·unfold J8_4_step
  have e0:Int.toNat (4 * (i:Int))=4 * i:=by omega
  have e1:Int.toNat (4 * (i:Int)+1)=4 * i+1:=by omega
  have e2:Int.toNat (4 * (i:Int)+2)=4 * i+2:=by omega
  have e3:Int.toNat (4 * (i:Int)+3)=4 * i+3:=by omega
  have hx:∀ x:UInt32,outB x 3=UInt8.ofNat x.toNat:=by intro x; simp [outB]
  simp (disch:=omega) only [J6j,J6k,J6g,e0,e1,e2,e3,Int.toNat_natCast]
  rw [Jj6,hx]
  rfl
 ·unfold J8_4_step
  rfl
theorem K0o (a b c d e f g i:UInt32):J7b (fun j acc=>Jj6 (List.getD [a,b,c,d,e,f,g,i] j 0) j acc) 0 8 (List.replicate 32 (0:UInt8))=outS [a,b,c,d,e,f,g,i]:=by kernel_rfl
theorem K46 (h:List UInt32) (hh:h.length=8):J7b (fun i acc=>Jj6 (h.getD i 0) i acc) 0 8 (List.replicate 32 (0:UInt8))=outS h:=by
 match h,hh with
 | [a,b,c,d,e,f,g,i],_=>exact K0o a b c d e f g i
theorem Jzz:J3x=some kS:=by kernel_rfl
theorem K4a (b:List UInt8):J7b (fun j (l:List UInt8)=>l++[Jb6 (bitsOf b) (7 - j)]) 0 8 ((b++[128])++List.replicate ((b.length+8) / 64 * 64+55 - b.length) 0)=padS b:=by
 unfold padS
 simp only [J7b,List.append_assoc]
 rfl
theorem K4c (b:List UInt8) (hb:b.length≤1073741824):J8 b=some (sha b):=by
 unfold J8
 have h0:(List.set (List.set (List.set (List.set (List.set (List.set (List.set (List.set (List.replicate 8 (0:UInt32)) 0 (1779033703:UInt32)) 1 (3144134277:UInt32)) 2 (1013904242:UInt32)) 3 (2773480762:UInt32)) 4 (1359893119:UInt32)) 5 (2600822924:UInt32)) 6 (528734635:UInt32)) 7 (1541459225:UInt32))=h0S:=by kernel_rfl
 rw [Jzz,J6f,J6g (by simp; omega),J6g (by simp; omega),h0,List.nil_append,rsum_1 b hb,J6f]
 simp only [rsum_2 b hb _ _ (show ((b++[128])++List.replicate ((b.length+8) / 64 * 64+55 - b.length) (0:UInt8)).length≤1073741924 by simp; omega),J6f,K4a]
 rw [K4b _ _ ((b.length+8) / 64+1) (Jqu b) (by omega) _ rfl,J6f,Jhx]
 simp only [rsum_4,J6f]
 rw [K46 _ (by rw [Jbr]; rfl)]
 rfl
theorem J7w (t:UInt8) (l:List (List UInt8)) (h:l.flatten.length≤1073741823) (hl:l.length≤1073741823):Je t l=some (sha (t::l.flatten)):=by
 unfold Je
 have:∀ z,Je_1 l (l.length:Int) 0 z [t]=some (z,t::l.flatten):=by
  intro z
  unfold Je_1
  have:=J6s (step:=fun (s:Int×List UInt8)=>Je_1_step l (l.length:Int) s.1 z s.2) (fun i (_:Unit)=>((i:Int),t::(l.take i).flatten)) (fun _ _=>()) (fun _=>(z,t::l.flatten)) l.length (fun _ _=>True) (fun i w hi _=>⟨?_,trivial⟩) (fun w _=>?_) l.length 0 () (by omega) trivial
  ·exact this
  ·unfold Je_1_step
   have e:=getD_take l hi
   have le:=Jaz l (i+1)
   rw [← e,List.length_append] at le
   simp (disch:=omega) only [J6j,J6k,J6g,Int.toNat_natCast]
   rw [J6g (by rw [List.length_cons]; omega),List.cons_append,e]
   rfl
  ·unfold Je_1_step
   rw [J6h (by omega),List.take_of_length_le (Nat.le_refl _)]
 rw [this,J6f]
 simp only []
 rw [K4c _ (by rw [List.length_cons]; omega),J6f]
theorem Jpf:∀ (f k n:Nat),n < 128 ^ (f+1)→f < k→f≤100→n≤1099511627775→Jy_f k (n:Int)=some (putF f n)
 | f,0,n,h,hk,hf,hn=>by omega
 | f,k+1,n,h,hk,hf,hn=>by
  rw [Jy_f,J6h (by omega),J6h (by omega)]
  by_cases h1:n < 128
  ·rw [J6j (by omega),Jl2 h1 f,J9b]
  ·rw [J6h (by omega)]
   cases f with
   | zero=>simp at h; omega
   | succ f=>
    have hd:n / 128 < 128 ^ (f+1):=by
     rw [Nat.div_lt_iff_lt_mul (by omega)]
     have:128 ^ (f+1+1)=128 ^ (f+1) * 128:=Nat.pow_succ ..
     omega
    rw [show Int.toNat 7=7 from rfl,Js5 n 7 (by omega),show n / 2 ^ 7=n / 128 from rfl,Jpf f k (n / 128) hd (by omega) (by omega) (by omega),J6f,Jvk n (by omega),K1h _ (by omega),J9b]
    have:=Jmq f (n / 128)
    rw [J6g (by simp; omega),putF,if_neg h1]; rfl
theorem Jgd (n:Int):Jy n=some (oneS n):=by
 unfold Jy oneS
 by_cases h0:n < 0
 ·rw [Jy_f,J6j h0,if_neg (by omega)]
 ·by_cases h1:1099511627775 < n
  ·rw [Jy_f,J6h h0,J6j h1,if_neg (by omega)]
  ·rw [if_pos (by omega)]
   obtain ⟨k,rfl⟩:=Int.eq_ofNat_of_zero_le (show 0≤n by omega)
   exact Jpf 6 64 k (by omega) (by omega) (by omega) (by omega)
theorem Jqy (l:List (List UInt8)) (hl:l.length≤1000) (hh:∀ x ∈ l,x.length=32) (acc:List UInt8) (ha:acc.length≤1000):Jo_1 (l.length:Int) 0 acc l=some (acc++l.flatten):=by
 have hlen:∀ i,((l.take i).flatten).length≤32 * l.length:=by
  intro i
  have:∀ (m:List (List UInt8)),(∀ x ∈ m,x.length=32)→m.flatten.length=32 * m.length:=by
   intro m
   induction m with
   | nil=>intro _; rfl
   | cons a m ih=>intro hm; rw [List.flatten_cons,List.length_append,ih (fun x hx=>hm x (List.mem_cons_of_mem _ hx)),hm a List.mem_cons_self,List.length_cons]; omega
  rw [this _ fun x hx=>hh x (List.mem_of_mem_take hx),List.length_take]; omega
 unfold Jo_1
 have:=J6s (step:=fun (s:Int×List UInt8)=>Jo_1_step (l.length:Int) s.1 s.2 l) (fun i (_:Unit)=>((i:Int),acc++(l.take i).flatten)) (fun _ _=>()) (fun _=>acc++l.flatten) l.length (fun _ _=>True) (fun i w hi _=>⟨?_,trivial⟩) (fun w _=>?_) l.length 0 () (by omega) trivial
 ·simpa using this
 ·show Jo_1_step (l.length:Int) (i:Int) (acc++(l.take i).flatten) l=_
  unfold Jo_1_step
  have b:=hlen i
  have hm:(l.getD i (List.replicate 32 0)).length=32:=hh _ (by rw [List.getD_eq_getElem?_getD,List.getElem?_eq_getElem hi]; exact List.getElem_mem _)
  have e:=Jb9 (fun x:List UInt8=>x) l (List.replicate 32 0) hi
  simp only [List.flatMap_id'] at e
  rw [J6j (by omega),J6g (by omega),Int.toNat_natCast,J6g (by rw [List.length_append]; omega),J6k (by omega) (by omega),List.append_assoc,e]
  rfl
 ·show Jo_1_step (l.length:Int) (l.length:Int) (acc++(l.take l.length).flatten) l=_
  unfold Jo_1_step
  rw [J6h (by omega),List.take_of_length_le (Nat.le_refl _)]
theorem Jya (h:Hdr) (hh:J8v h):Jo h=some (Jfu h):=by
 obtain ⟨a,b,c,d⟩:=hh
 have l1:=J7y h.1
 have l2:=J7y h.2.1
 unfold Jo
 rw [Jgd,J6f,Jgd,J6f,J6g (by omega),Jqy _ (by simp) (by
   intro x hx
   simp only [List.mem_cons,List.not_mem_nil,or_false] at hx
   rcases hx with rfl | rfl | rfl | rfl <;> assumption) _ (by rw [List.length_append]; omega),J6f]
 congr 1
 simp [Jfu]
theorem Jih (h:Hdr) (hh:J8v h):J5c h=some (sha (72::Jcc h)):=by
 have hl:(Jcc h).length≤142:=by
  unfold Jcc; split
  ·exact Jrj h hh
  ·simp
 unfold J5c
 have hf:[Jcc h].flatten=Jcc h:=by simp
 rw [Jzw h hh,J6f,J81 _ _ (by rw [hf]; omega) (by simp),hf]
 rfl
theorem Jpa (h:Hdr) (hh:J8v h):J10 h=some (sha (72::Jfu h)):=by
 have hl:=Jrj h hh
 unfold J10
 have hf:[Jfu h].flatten=Jfu h:=by simp
 rw [Jya h hh,J6f,J7w _ _ (by rw [hf]; omega) (by simp),hf]
 rfl
def txtS (x:List UInt8):List UInt8:=oneS x.length++x
theorem Jjv (x:List UInt8):(txtS x).length≤x.length+7:=by
 have:=J7y (x.length:Int)
 unfold txtS; rw [List.length_append]; omega
theorem Jtj (l:List (List UInt8)) (hl:l.length≤1000) (h:∀ x ∈ l,x.length≤100000):J19 l=some (l.flatMap txtS):=by
 have hlen:∀ i,((l.take i).flatMap txtS).length≤100007 * i:=by
  intro i
  have:∀ (m:List (List UInt8)),(∀ x ∈ m,x.length≤100000)→(m.flatMap txtS).length≤100007 * m.length:=by
   intro m
   induction m with
   | nil=>intro _; simp
   | cons a m ih=>intro hm; have h1:=ih (fun x hx=>hm x (List.mem_cons_of_mem _ hx)); have h2:=hm a List.mem_cons_self; have h3:=Jjv a; rw [List.flatMap_cons,List.length_append,List.length_cons]; omega
  have:=this (l.take i) fun x hx=>h x (List.mem_of_mem_take hx)
  rw [List.length_take] at this; omega
 have main:J19_1 l (l.length:Int) 0 []=some (l.flatMap txtS):=by
  unfold J19_1
  have:=J6s (step:=fun (s:Int×List UInt8)=>J19_1_step l (l.length:Int) s.1 s.2) (fun i (_:Unit)=>((i:Int),(l.take i).flatMap txtS)) (fun _ _=>()) (fun _=>l.flatMap txtS) l.length (fun _ _=>True) (fun i w hi _=>⟨?_,trivial⟩) (fun w _=>?_) l.length 0 () (by omega) trivial
  ·exact this
  ·show J19_1_step l (l.length:Int) (i:Int) ((l.take i).flatMap txtS)=_
   unfold J19_1_step
   have b:=hlen i
   have hm:(l.getD i []).length≤100000:=h _ (J7d hi)
   have b2:=J7y ((l.getD i []).length:Int)
   rw [J6j (by omega),J6g (by omega),Int.toNat_natCast,Jxt,J6f,J6g (by omega),J6g (by rw [List.length_append]; omega),J6k (by omega) (by omega),List.append_assoc,Jb9 txtS l [] hi]
   rfl
  ·show J19_1_step l (l.length:Int) (l.length:Int) ((l.take l.length).flatMap txtS)=_
   unfold J19_1_step
   rw [J6h (by omega),List.take_of_length_le (Nat.le_refl _)]
 unfold J19
 rw [main,J6f]
theorem K36 (n:Nat) (h:n≤1000000000):J2d (n:Int)=some []:=by
 unfold J2d
 rw [J6h (by omega),Int.sub_zero,J6k (by omega) (by omega)]
 by_cases c:(0:Int) < (n:Int)
 ·rw [J6j c,J6g ⟨rfl,rfl⟩,J6g (by rw [List.length_replicate]; omega),J6g (by omega),J6g (by rw [List.length_replicate]; omega)]
  rfl
 ·rw [J6h c]
theorem Jw3 (l:List (List UInt8)) (h:l.flatten.length≤1000000000) (hl:l.length≤1000000):J7 l=some l.flatten:=by
 have ht:∀ i,((l.take i).flatten).length≤1000000000:=fun i=>Nat.le_trans (Jaz l i) h
 have m1:J7_1 l 0 l (l.length:Int) 0=some (l,(l.flatten.length:Int)):=by
  unfold J7_1
  have:=J6s (step:=fun (s:Int×Int)=>J7_1_step l s.1 l (l.length:Int) s.2) (fun i (_:Unit)=>((((l.take i).flatten).length:Int),(i:Int))) (fun _ _=>()) (fun _=>(l,(l.flatten.length:Int))) l.length (fun _ _=>True) (fun i w hi _=>⟨?_,trivial⟩) (fun w _=>?_) l.length 0 () (by omega) trivial
  ·exact this
  ·show J7_1_step l (((l.take i).flatten).length:Int) l (l.length:Int) (i:Int)=_
   unfold J7_1_step
   have e:=congrArg List.length (getD_take l hi)
   rw [List.length_append] at e
   have b:=ht (i+1)
   rw [J6j (by omega),J6g (by omega),Int.toNat_natCast,J6k (n:=(((l.take i).flatten).length:Int)+((l.getD i []).length:Int)) (by omega) (by omega),J6h (by omega),J6k (by omega) (by omega)]
   congr 3
   omega
  ·show J7_1_step l (((l.take l.length).flatten).length:Int) l (l.length:Int) (l.length:Int)=_
   unfold J7_1_step
   rw [J6h (by omega),List.take_of_length_le (Nat.le_refl _)]
 have m2:J7_2 l (l.length:Int) 0 []=some l.flatten:=by
  unfold J7_2
  have:=J6s (step:=fun (s:Int×List UInt8)=>J7_2_step l (l.length:Int) s.1 s.2) (fun i (_:Unit)=>((i:Int),(l.take i).flatten)) (fun _ _=>()) (fun _=>l.flatten) l.length (fun _ _=>True) (fun i w hi _=>⟨?_,trivial⟩) (fun w _=>?_) l.length 0 () (by omega) trivial
  ·exact this
  ·show J7_2_step l (l.length:Int) (i:Int) ((l.take i).flatten)=_
   unfold J7_2_step
   have e:=congrArg List.length (getD_take l hi)
   rw [List.length_append] at e
   have b:=ht (i+1)
   rw [J6j (by omega),J6g (by omega),Int.toNat_natCast,J6g (by omega),J6k (by omega) (by omega),getD_take l hi]
   rfl
  ·show J7_2_step l (l.length:Int) (l.length:Int) ((l.take l.length).flatten)=_
   unfold J7_2_step
   rw [J6h (by omega),List.take_of_length_le (Nat.le_refl _)]
 unfold J7
 rw [m1,J6f]
 simp only
 rw [K36 _ h,J6f,m2,J6f]
def valB (v:Val):List UInt8:=txtS v.1++oneS v.2.1++v.2.2.1
def setB (l:List Val):List UInt8:=oneS l.length++l.flatMap valB
def setH (l:List Val):List UInt8:=sha (86::setB l)
def Jpv (l:List Val):Prop:=l.length≤1000∧∀ v ∈ l,v.1.length≤100000∧v.2.2.1.length=32
theorem J8r (l:List Val):(setH l).length=32:=J86 _
theorem Jtg {v:Val} (h:v.1.length≤100000∧v.2.2.1.length=32):(valB v).length≤100100:=by
 have h1:=Jjv v.1
 have h2:=J7y v.2.1
 unfold valB
 rw [List.length_append,List.length_append]; omega
theorem Jth:∀ (m:List Val),(∀ v ∈ m,v.1.length≤100000∧v.2.2.1.length=32)→(m.flatMap valB).length≤100100 * m.length
 | [],_=>by simp
 | a::m,hm=>by
  have h1:=Jth m fun x hx=>hm x (List.mem_cons_of_mem _ hx)
  have h2:=Jtg (hm a List.mem_cons_self)
  rw [List.flatMap_cons,List.length_append,List.length_cons]; omega
theorem Jd3 {l:List Val} (h:Jpv l) (i:Nat):(oneS l.length++(l.take i).flatMap valB).length≤100100 * 1000+7:=by
 have h1:=J7y (l.length:Int)
 have h2:=Jth (l.take i) fun v hv=>h.2 v (List.mem_of_mem_take hv)
 have h3:=h.1
 rw [List.length_take] at h2
 rw [List.length_append]
 have:min i l.length≤1000:=by omega
 have:100100 * min i l.length≤100100 * 1000:=Nat.mul_le_mul_left _ this
 omega
theorem Jfq (x0:List Val) (x1:Int) (x2:Int) (x3:List UInt8) (x4:List UInt8):J0f_1_step x0 x1 x2 x3 x4=(fork (decide (x2 < x1)) (need (0≤x2∧x2 < (List.length x0:Int)) (andThen (J19 ([(List.getD x0 (Int.toNat x2) zVal).1]:List (List UInt8))) (fun u6=>andThen (J0q ([(List.getD x0 (Int.toNat x2) zVal).2.1]:List (Int))) (fun u8=>andThen (J18 ([(List.getD x0 (Int.toNat x2) zVal).2.2.1]:List (List UInt8))) (fun u10=>andThen (J7 ([x4,u6,u8,u10]:List (List UInt8))) (fun u12=>some (.inl ((w64 (x2+(1:Int))),u12)))))))) (some (.inr (x3,x4))):Option ((Int×List UInt8)⊕(List UInt8×List UInt8))):=rfl
theorem J9k (l:List Val) (h:Jpv l):J0f l=some (setH l):=by
 have hl:=h.1
 have main:J0f_1 l (l.length:Int) 0 (List.replicate 32 0) (oneS l.length)=some (List.replicate 32 0,setB l):=by
  unfold J0f_1
  have:=J6s (step:=fun (s:Int×List UInt8)=>J0f_1_step l (l.length:Int) s.1 (List.replicate 32 0) s.2) (fun i (_:Unit)=>((i:Int),oneS l.length++(l.take i).flatMap valB)) (fun _ _=>()) (fun _=>(List.replicate 32 0,setB l)) l.length (fun _ _=>True) (fun i w hi _=>⟨?_,trivial⟩) (fun w _=>?_) l.length 0 () (by omega) trivial
  ·rw [show ((0:Int),oneS (l.length:Int))=(((0:Nat):Int),oneS (l.length:Int)++(l.take 0).flatMap valB) from by simp]
   exact this
  ·show J0f_1_step l (l.length:Int) (i:Int) (List.replicate 32 0) (oneS l.length++(l.take i).flatMap valB)=_
   have hv:=h.2 _ (J7d (z:=zVal) hi)
   have b:=Jd3 h i
   have b2:=Jtg hv
   rw [Jfq,J6j (by omega),J6g (by omega),Int.toNat_natCast,Jtj _ (by simp) (by simp; exact hv.1),J6f,put_eq _ (by simp),J6f,Jx1 _ (by simp) (by simp; exact hv.2),J6f]
   have e:[oneS (l.length:Int)++(l.take i).flatMap valB,[(l.getD i zVal).1].flatMap txtS,putS [(l.getD i zVal).2.1],[(l.getD i zVal).2.2.1].flatten].flatten=oneS (l.length:Int)++(l.take (i+1)).flatMap valB:=by
    rw [Jb9 valB l zVal hi]
    simp [valB,putS,List.append_assoc]
   have b3:=Jd3 h (i+1)
   rw [Jw3 _ (by rw [e]; omega) (by simp),J6f,e,J6k (by omega) (by omega)]
   rfl
  ·show J0f_1_step l (l.length:Int) (l.length:Int) (List.replicate 32 0) (oneS l.length++(l.take l.length).flatMap valB)=_
   unfold J0f_1_step
   rw [J6h (by omega),List.take_of_length_le (Nat.le_refl _)]
   rfl
 have b:=Jd3 h l.length
 rw [List.take_of_length_le (Nat.le_refl _)] at b
 have b:(setB l).length≤100100 * 1000+7:=b
 have hp:putS [(l.length:Int)]=oneS l.length:=by simp [putS]
 have hf:[setB l].flatten=setB l:=by simp
 unfold J0f
 rw [put_eq _ (by simp),J6f,hp,main,J6f]
 simp only
 rw [J81 _ _ (by rw [hf]; omega) (by simp),hf]
 rfl
theorem K0r (x:List UInt8) (hx:x.length≤100000):J24 x=some (txtS x):=by
 have:=J7y (x.length:Int)
 unfold J24
 rw [Jgd,J6f,J6g (by omega)]
 rfl
theorem J9u (x0:List Val) (x1:Int) (x2:Int) (x3:List UInt8) (x4:List UInt8):Jl_1_step x0 x1 x2 x3 x4=(fork (decide (x2 < x1)) (need (0≤x2∧x2 < (List.length x0:Int)) (andThen (J24 ((List.getD x0 (Int.toNat x2) zVal).1)) (fun u6=>need (List.length x4+List.length u6≤2147483648) (andThen (Jy ((List.getD x0 (Int.toNat x2) zVal).2.1)) (fun u9=>need (List.length (x4++u6)+List.length u9≤2147483648) (need (List.length ((x4++u6)++u9)+List.length (List.getD x0 (Int.toNat x2) zVal).2.2.1≤2147483648) (some (.inl ((w64 (x2+(1:Int))),(((x4++u6)++u9)++(List.getD x0 (Int.toNat x2) zVal).2.2.1)))))))))) (some (.inr (x3,x4))):Option ((Int×List UInt8)⊕(List UInt8×List UInt8))):=rfl
theorem Jr4 (l:List Val) (h:Jpv l):Jl l=some (setH l):=by
 have hl:=h.1
 have main:Jl_1 l (l.length:Int) 0 (List.replicate 32 0) (oneS l.length)=some (List.replicate 32 0,setB l):=by
  unfold Jl_1
  have:=J6s (step:=fun (s:Int×List UInt8)=>Jl_1_step l (l.length:Int) s.1 (List.replicate 32 0) s.2) (fun i (_:Unit)=>((i:Int),oneS l.length++(l.take i).flatMap valB)) (fun _ _=>()) (fun _=>(List.replicate 32 0,setB l)) l.length (fun _ _=>True) (fun i w hi _=>⟨?_,trivial⟩) (fun w _=>?_) l.length 0 () (by omega) trivial
  ·rw [show ((0:Int),oneS (l.length:Int))=(((0:Nat):Int),oneS (l.length:Int)++(l.take 0).flatMap valB) from by simp]
   exact this
  ·show Jl_1_step l (l.length:Int) (i:Int) (List.replicate 32 0) (oneS l.length++(l.take i).flatMap valB)=_
   have hv:=h.2 _ (J7d (z:=zVal) hi)
   have b:=Jd3 h i
   have b1:=Jjv (l.getD i zVal).1
   have b2:=J7y (l.getD i zVal).2.1
   rw [J9u,J6j (by omega),J6g (by omega),Int.toNat_natCast,K0r _ hv.1,J6f,J6g (by omega),Jgd,J6f,J6g (by rw [@List.length_append _ (oneS _++_) _]; omega),J6g (by rw [@List.length_append _ ((oneS _++_)++_) _,@List.length_append _ (oneS _++_) _]; omega),J6k (by omega) (by omega),Jb9 valB l zVal hi]
   simp [valB,List.append_assoc]
  ·show Jl_1_step l (l.length:Int) (l.length:Int) (List.replicate 32 0) (oneS l.length++(l.take l.length).flatMap valB)=_
   unfold Jl_1_step
   rw [J6h (by omega),List.take_of_length_le (Nat.le_refl _)]
   rfl
 have b:=Jd3 h l.length
 rw [List.take_of_length_le (Nat.le_refl _)] at b
 have b:(setB l).length≤100100 * 1000+7:=b
 have hf:[setB l].flatten=setB l:=by simp
 unfold Jl
 rw [Jgd,J6f,main,J6f]
 simp only
 rw [J7w _ _ (by rw [hf]; omega) (by simp),hf]
 rfl
def Jk3:Nat→Nat→Nat→Nat
 | 0,k,n=>k
 | f+1,k,n=>if 2 * k < n then Jk3 f (2 * k) n else k
def J70 (n:Nat):Nat:=Jk3 40 1 n
theorem Jmn (k f:Nat):2 * (2 * k) * 2 ^ f=2 * k * (2 ^ f * 2):=by
 rw [Nat.mul_comm (2 ^ f) 2,← Nat.mul_assoc (2 * k) 2 (2 ^ f)]; congr 1; omega
theorem Jxf:∀ (f k n:Nat),1≤k→k < n→n≤2 * k * 2 ^ f→k≤Jk3 f k n∧Jk3 f k n < n∧n≤2 * Jk3 f k n
 | 0,k,n,h1,h2,h3=>by
  simp only [Nat.pow_zero,Nat.mul_one] at h3
  exact ⟨Nat.le_refl _,h2,h3⟩
 | f+1,k,n,h1,h2,h3=>by
  rw [Jk3]
  split
  ·rename_i h
   have:=Jxf f (2 * k) n (by omega) h (by rw [Nat.pow_succ] at h3; rw [Jmn]; exact h3)
   exact ⟨by omega,this.2⟩
  ·exact ⟨Nat.le_refl _,h2,by omega⟩
theorem Jb4 (n:Nat) (h:2≤n) (h2:n≤1099511627776):1≤J70 n∧J70 n < n∧n≤2 * J70 n:=Jxf 40 1 n (by omega) (by omega) (by omega)
theorem Jom:∀ (f k n:Nat),n≤2 * k * 2 ^ f→1≤k→n≤1073741824→k≤1073741824→J0y_1 (n:Int) (k:Int)=some ((Jk3 f k n:Nat):Int)
 | 0,k,n,h,h1,h2,hk=>by
  unfold J0y_1
  refine J71 ?_
  unfold J0y_1_step
  simp only [Nat.pow_zero,Nat.mul_one] at h
  rw [J6k (by omega) (by omega),J6h (by omega)]
  rfl
 | f+1,k,n,h,h1,h2,hk=>by
  rw [Jk3]
  split
  ·rename_i hlt
   rw [← Jom f (2 * k) n (by rw [Nat.pow_succ] at h; rw [Jmn]; exact h) (by omega) h2 (by omega)]
   have hs:J0y_1_step (n:Int) (k:Int)=some (.inl ((2 * k:Nat):Int)):=by
    unfold J0y_1_step
    rw [J6k (by omega) (by omega),J6k (by omega) (by omega),J6j (by omega),show (k:Int) * 2=((2 * k:Nat):Int) from by omega]
   unfold J0y_1
   rw [J79 hs]
  ·rename_i hlt
   unfold J0y_1
   refine J71 ?_
   unfold J0y_1_step
   rw [J6k (by omega) (by omega),J6h (by omega)]
theorem left_eq (n:Nat) (h:n≤1073741824):J0y (n:Int)=some ((J70 n:Nat):Int):=by
 unfold J0y
 rw [show (1:Int)=((1:Nat):Int) from rfl,Jom 40 1 n (by omega) (by omega) h (by omega),J6f]
 rfl
def K0n (l:List (List UInt8)):List UInt8:=
 if h:2≤l.length∧l.length≤1099511627776 then sha (1::(K0n (l.take (J70 l.length))++K0n (l.drop (J70 l.length))))
 else if l.length=0 then sha [2] else sha (0::l.getD 0 [])
termination_by l.length
decreasing_by
 ·have:=Jb4 l.length h.1 h.2; simp; omega
 ·have:=Jb4 l.length h.1 h.2; simp; omega
theorem Jt1:∃ f:List (List UInt8)→List UInt8,∀ l,f l=if h:2≤l.length∧l.length≤1099511627776 then sha (1::(f (l.take (J70 l.length))++f (l.drop (J70 l.length)))) else if l.length=0 then sha [2] else sha (0::l.getD 0 []):=
 ⟨K0n,fun l=>by rw [K0n]⟩
noncomputable def J8u:List (List UInt8)→List UInt8:=Classical.choose Jt1
theorem Jhk (l:List (List UInt8)):J8u l=if h:2≤l.length∧l.length≤1099511627776 then sha (1::(J8u (l.take (J70 l.length))++J8u (l.drop (J70 l.length)))) else if l.length=0 then sha [2] else sha (0::l.getD 0 []):=Classical.choose_spec Jt1 l
theorem J85 (l:List (List UInt8)):(J8u l).length=32:=by
 rw [Jhk]; split
 ·exact J86 _
 ·split <;> exact J86 _
def Jez (a b:List UInt8):List UInt8:=sha (1::(a++b))
def K3e (x:List UInt8):List UInt8:=sha (0::x)
theorem Jjk (l:List (List UInt8)) (h:2≤l.length) (h2:l.length≤1099511627776):J8u l=Jez (J8u (l.take (J70 l.length))) (J8u (l.drop (J70 l.length))):=by
 rw [Jhk,dif_pos ⟨h,h2⟩]; rfl
theorem Jd2 (x:List UInt8):J8u [x]=K3e x:=by
 rw [Jhk,dif_neg (by simp),if_neg (by simp)]; rfl
theorem Jl5:J8u []=sha [2]:=by
 rw [Jhk,dif_neg (by simp),if_pos (by simp)]
theorem Jmd (a b:List UInt8) (ha:a.length=32) (hb:b.length=32):J4c a b=some (Jez a b):=by
 unfold J4c
 have hf:[a,b].flatten=a++b:=by simp
 rw [J81 _ _ (by rw [hf,List.length_append]; omega) (by simp),hf]
 rfl
def Small (l:List (List UInt8)):Prop:=∀ x ∈ l,x.length≤1000000
theorem Ja9 {l:List (List UInt8)} (h:Small l) (n:Nat):Small (l.take n):=fun x hx=>h x (List.mem_of_mem_take hx)
theorem Ja8 {l:List (List UInt8)} (h:Small l) (n:Nat):Small (l.drop n):=fun x hx=>h x (List.mem_of_mem_drop hx)
theorem Jjl:∀ (k:Nat) (l:List (List UInt8)),l.length < k→l.length≤1000→Small l→J1s_f k l=some (J8u l)
 | 0,l,h,_,_=>by omega
 | k+1,l,h,h2,hl=>by
  rw [J1s_f]
  match l,h,h2,hl with
  | [],h,h2,hl=>
   rw [J6j (by simp),J81 _ _ (by simp) (by simp),Jl5]; rfl
  | [x],h,h2,hl=>
   have hx:=hl x (by simp)
   have hf:[List.getD [x] (Int.toNat (0:Int)) []].flatten=x:=by simp
   rw [J6h (by simp),J6j (by simp),J6g (by simp),J81 _ _ (by rw [hf]; omega) (by simp),hf,Jd2]; rfl
  | x::y::r,h,h2,hl=>
   have hn:2≤(x::y::r).length:=by simp
   generalize x::y::r=l at h h2 hl hn
   obtain ⟨b1,b2,b3⟩:=Jb4 l.length hn (by omega)
   rw [J6h (by omega),J6h (by omega),left_eq _ (by omega),J6f,J6g (by omega),Jer,J94,Int.toNat_natCast,Jjl k (l.take (J70 l.length)) (by rw [List.length_take]; omega) (by rw [List.length_take]; omega) (Ja9 hl _),J6f,J6g (by omega),
    Jjl k (l.drop (J70 l.length)) (by rw [List.length_drop]; omega) (by rw [List.length_drop]; omega) (Ja8 hl _),J6f,Jmd _ _ (J85 _) (J85 _),J6f,Jjk l hn (by omega)]
theorem Jmw (l:List (List UInt8)) (h:l.length < 64) (hl:Small l):J1s l=some (J8u l):=Jjl 64 l h (by omega) hl
noncomputable def J8a:Nat→List (List UInt8)→Nat→List (List UInt8)
 | 0,_,_=>[]
 | f+1,l,i=>if l.length≤1 then [] else if i < J70 l.length then J8a f (l.take (J70 l.length)) i++[J8u (l.drop (J70 l.length))]
   else J8a f (l.drop (J70 l.length)) (i - J70 l.length)++[J8u (l.take (J70 l.length))]
def J91:Nat→Nat→Nat→List Bool
 | 0,_,_=>[]
 | f+1,i,n=>if n≤1 then [] else if i < J70 n then true::J91 f i (J70 n) else false::J91 f (i - J70 n) (n - J70 n)
theorem Jdi:∀ (f g:Nat) (l:List (List UInt8)) (i:Nat),l.length≤f+1→l.length≤g+1→l.length≤1000→J8a f l i=J8a g l i
 | 0,g,l,i,h,_,_=>by
  cases g with
  | zero=>rfl
  | succ g=>rw [J8a,J8a,if_pos h]
 | f+1,0,l,i,_,h,_=>by rw [J8a,J8a,if_pos h]
 | f+1,g+1,l,i,h,h2,h3=>by
  rw [J8a,J8a]
  by_cases h1:l.length≤1
  ·rw [if_pos h1,if_pos h1]
  ·obtain ⟨b1,b2,b3⟩:=Jb4 l.length (by omega) (by omega)
   rw [if_neg h1,if_neg h1,Jdi f g (l.take (J70 l.length)) i (by rw [List.length_take]; omega) (by rw [List.length_take]; omega) (by rw [List.length_take]; omega),Jdi f g (l.drop (J70 l.length)) _ (by rw [List.length_drop]; omega) (by rw [List.length_drop]; omega) (by rw [List.length_drop]; omega)]
theorem Ja7:∀ (f:Nat) (l:List (List UInt8)) (i:Nat),l.length≤1000→(J8a f l i).length=(J91 f i l.length).length
 | 0,_,_,_=>rfl
 | f+1,l,i,h=>by
  rw [J8a,J91]
  by_cases h1:l.length≤1
  ·rw [if_pos h1,if_pos h1]; rfl
  ·obtain ⟨b1,b2,b3⟩:=Jb4 l.length (by omega) (by omega)
   rw [if_neg h1,if_neg h1]
   by_cases hi:i < J70 l.length
   ·rw [if_pos hi,if_pos hi,List.length_append,Ja7 f _ _ (by rw [List.length_take]; omega),List.length_take,Nat.min_eq_left (by omega)]; simp
   ·rw [if_neg hi,if_neg hi,List.length_append,Ja7 f _ _ (by rw [List.length_drop]; omega),List.length_drop]; simp
theorem Jbf:∀ (f:Nat) (l:List (List UInt8)) (i:Nat),(J8a f l i).length≤f
 | 0,_,_=>by simp [J8a]
 | f+1,l,i=>by
  rw [J8a]; split
  ·simp
  ·split
   ·have:=Jbf f (l.take (J70 l.length)) i; simp; omega
   ·have:=Jbf f (l.drop (J70 l.length)) (i - J70 l.length); simp; omega
theorem Jhh:∀ (f:Nat) (l:List (List UInt8)) (i:Nat),∀ x ∈ J8a f l i,x.length=32
 | 0,_,_,x,hx=>by simp [J8a] at hx
 | f+1,l,i,x,hx=>by
  rw [J8a] at hx; split at hx
  ·simp at hx
  ·split at hx
   ·rcases List.mem_append.1 hx with h | h
    ·exact Jhh f _ _ x h
    ·simp at h; rw [h]; exact J85 _
   ·rcases List.mem_append.1 hx with h | h
    ·exact Jhh f _ _ x h
    ·simp at h; rw [h]; exact J85 _
abbrev zT:List UInt8:=List.replicate 32 (0:UInt8)
def Jfg (a:List (List UInt8)) (i:Nat):List (List UInt8):=(List.range a.length).map fun j=>if j < i∨a.length - 1 - i < j then a.getD (a.length - 1 - j) zT else a.getD j zT
theorem J98 (a:List (List UInt8)) (i:Nat):(Jfg a i).length=a.length:=by simp [Jfg]
theorem Jbh (a:List (List UInt8)) (i j:Nat) (h:j < a.length):(Jfg a i).getD j zT=if j < i∨a.length - 1 - i < j then a.getD (a.length - 1 - j) zT else a.getD j zT:=by
 unfold Jfg
 rw [List.getD_eq_getElem?_getD,List.getElem?_map,List.getElem?_range h]; rfl
theorem Jm0 {a b:List (List UInt8)} (hl:a.length=b.length) (h:∀ j,j < a.length→a.getD j zT=b.getD j zT):a=b:=by
 apply List.ext_getElem hl
 intro j h1 h2
 have:=h j h1
 rw [List.getD_eq_getElem?_getD,List.getD_eq_getElem?_getD,List.getElem?_eq_getElem h1,List.getElem?_eq_getElem h2] at this
 exact this
theorem Jex (a:List (List UInt8)) (i j:Nat) (x:List UInt8) (h:i < a.length):(a.set i x).getD j zT=if i=j then x else a.getD j zT:=by
 rw [List.getD_eq_getElem?_getD,List.getElem?_set,List.getD_eq_getElem?_getD]
 split
 ·rename_i e; subst e; simp [h]
 ·rfl
theorem Juw (a:List (List UInt8)) (i:Nat) (h:i < a.length - 1 - i):((Jfg a i).set i ((Jfg a i).getD (a.length - 1 - i) zT)).set (a.length - 1 - i) ((Jfg a i).getD i zT)=Jfg a (i+1):=by
 apply Jm0 (by simp [J98])
 intro j hj
 rw [List.length_set,List.length_set,J98] at hj
 rw [Jex _ _ _ _ (by rw [List.length_set,J98]; omega),Jex _ _ _ _ (by rw [J98]; omega),Jbh a i _ (by omega),Jbh a i _ (by omega),Jbh a i j hj,Jbh a (i+1) j hj]
 rw [if_neg (show ¬ (i < i∨a.length - 1 - i < i) by omega),if_neg (show ¬ (a.length - 1 - i < i∨a.length - 1 - i < a.length - 1 - i) by omega)]
 by_cases e1:a.length - 1 - i=j
 ·rw [if_pos e1,if_pos (by omega)]; congr 1; omega
 ·rw [if_neg e1]
  by_cases e2:i=j
  ·rw [if_pos e2,if_pos (by omega)]; congr 1; omega
  ·rw [if_neg e2]
   by_cases e3:j < i∨a.length - 1 - i < j
   ·rw [if_pos e3,if_pos (by omega)]
   ·rw [if_neg e3,if_neg (by omega)]
theorem rev_eq (a:List (List UInt8)) (ha:a.length≤1000000):Jk a=some a.reverse:=by
 have main:Jk_1 0 ((a.length:Int) - 1) a=some (Jfg a (a.length / 2)):=by
  have h0:Jfg a 0=a:=by
   apply Jm0 (J98 a 0)
   intro j hj
   rw [J98] at hj
   rw [Jbh a 0 j hj,if_neg (by omega)]
  unfold Jk_1
  have:=J6s (step:=fun (s:Int×Int×List (List UInt8))=>Jk_1_step s.1 s.2.1 s.2.2) (fun i (_:Unit)=>((i:Int),(a.length:Int) - 1 - (i:Int),Jfg a i)) (fun _ _=>()) (fun _=>Jfg a (a.length / 2)) (a.length / 2) (fun _ _=>True) (fun i w hi _=>⟨?_,trivial⟩) (fun w _=>?_) (a.length / 2) 0 () (by omega) trivial
  ·rw [h0] at this
   simpa using this
  ·show Jk_1_step (i:Int) ((a.length:Int) - 1 - (i:Int)) (Jfg a i)=_
   unfold Jk_1_step
   have hl:=J98 a i
   have e1:Int.toNat ((a.length:Int) - 1 - (i:Int))=a.length - 1 - i:=by omega
   rw [J6j (by omega),J6g (by omega),J6g (by omega),List.length_set,J6g (by omega),e1,Int.toNat_natCast,J6k (by omega) (by omega),J6k (by omega) (by omega),Juw a i (by omega),show (a.length:Int) - 1 - (i:Int) - 1=(a.length:Int) - 1 - ((i+1:Nat):Int) from by omega]
   rfl
  ·show Jk_1_step ((a.length / 2:Nat):Int) ((a.length:Int) - 1 - ((a.length / 2:Nat):Int)) (Jfg a (a.length / 2))=_
   unfold Jk_1_step
   rw [J6h (by omega)]
 unfold Jk
 rw [J6k (by omega) (by omega),main,J6f]
 congr 1
 apply Jm0 (by rw [J98,List.length_reverse])
 intro j hj
 rw [J98] at hj
 rw [Jbh a _ j hj]
 have hr:a.reverse.getD j zT=a.getD (a.length - 1 - j) zT:=by
  rw [List.getD_eq_getElem?_getD,List.getElem?_reverse hj,List.getD_eq_getElem?_getD]
 rw [hr]
 split
 ·rfl
 ·congr 1; omega
theorem Jj8:∀ (f:Nat) (l:List (List UInt8)) (i:Nat) (acc:List (List UInt8)),l.length≤f+1→l.length < 64→i < l.length∨l.length=0→acc.length≤1000 - f→f≤100→Small l→J0r_1 l (i:Int) acc=some (acc++(J8a f l i).reverse)
 | 0,l,i,acc,h,h2,hi,ha,hf,hs=>by
  unfold J0r_1
  refine J71 ?_
  unfold J0r_1_step
  rw [J6h (by show ¬ (1:Int) < (l.length:Int); omega)]
  simp [J8a]
 | f+1,l,i,acc,h,h2,hi,ha,hf,hs=>by
  by_cases h1:l.length≤1
  ·rw [J8a,if_pos h1]
   unfold J0r_1
   refine J71 ?_
   unfold J0r_1_step
   rw [J6h (by show ¬ (1:Int) < (l.length:Int); omega)]
   simp
  ·obtain ⟨b1,b2,b3⟩:=Jb4 l.length (by omega) (by omega)
   rw [J8a,if_neg h1]
   by_cases hl:i < J70 l.length
   ·rw [if_pos hl,List.reverse_append,List.reverse_singleton,← List.append_assoc]
    have hst:J0r_1_step l (i:Int) acc=some (.inl (l.take (J70 l.length),(i:Int),acc++[J8u (l.drop (J70 l.length))])):=by
     unfold J0r_1_step
     rw [J6j (by omega),left_eq _ (by omega),J6f,J6j (by omega),J6g (by omega),J94,Jer,Int.toNat_natCast,Jmw _ (by rw [List.length_drop]; omega) (Ja8 hs _),J6f,J6g (by simp; omega),J6g (by omega)]
    rw [← Jj8 f (l.take (J70 l.length)) i (acc++[J8u (l.drop (J70 l.length))]) (by rw [List.length_take]; omega) (by rw [List.length_take]; omega) (by rw [List.length_take]; omega) (by simp; omega) (by omega) (Ja9 hs _)]
    unfold J0r_1
    rw [J79 hst]
   ·rw [if_neg hl,List.reverse_append,List.reverse_singleton,← List.append_assoc]
    have hst:J0r_1_step l (i:Int) acc=some (.inl (l.drop (J70 l.length),((i - J70 l.length:Nat):Int),acc++[J8u (l.take (J70 l.length))])):=by
     unfold J0r_1_step
     rw [J6j (by omega),left_eq _ (by omega),J6f,J6h (by omega),J6g (by omega),J94,Jer,Int.toNat_natCast,Jmw _ (by rw [List.length_take]; omega) (Ja9 hs _),J6f,J6g (by simp; omega),J6g (by omega),J6k (by omega) (by omega),
      show (i:Int) - ((J70 l.length:Nat):Int)=((i - J70 l.length:Nat):Int) from by omega]
    rw [← Jj8 f (l.drop (J70 l.length)) (i - J70 l.length) (acc++[J8u (l.take (J70 l.length))]) (by rw [List.length_drop]; omega) (by rw [List.length_drop]; omega) (by rw [List.length_drop]; omega) (by simp; omega) (by omega) (Ja8 hs _)]
    unfold J0r_1
    rw [J79 hst]
noncomputable def Jbg (l:List (List UInt8)) (i:Int):List (List UInt8):=if 0≤i∧i < (l.length:Int) then J8a l.length l i.toNat else []
theorem Jy3 (l:List (List UInt8)) (i:Int) (h:l.length < 64) (hs:Small l):J0r l i=some (Jbg l i):=by
 unfold J0r Jbg
 by_cases h0:i < 0
 ·rw [J6j h0,if_neg (by omega)]
 ·rw [J6h h0]
  by_cases h1:(l.length:Int)≤i
  ·rw [J6j h1,if_neg (by omega)]
  ·rw [J6h h1,if_pos (by omega)]
   obtain ⟨k,rfl⟩:=Int.eq_ofNat_of_zero_le (show 0≤i by omega)
   have hl:=Jbf l.length l k
   rw [Jj8 l.length l k [] (by omega) h (by omega) (by simp) (by omega) hs,J6f]
   simp only [List.nil_append]
   rw [rev_eq _ (by rw [List.length_reverse]; omega),List.reverse_reverse]
   rfl
theorem Jgi:∀ (f i n:Nat) (acc:List Bool),n≤f+1→n≤1073741824→i < n∨n=0→acc.length≤10000000 - f→f≤5000000→J0l_1 (i:Int) (n:Int) acc=some (acc++J91 f i n)
 | 0,i,n,acc,h,h2,hi,ha,hf=>by
  unfold J0l_1
  refine J71 ?_
  unfold J0l_1_step
  rw [J6h (by show ¬ (1:Int) < (n:Int); omega)]
  simp [J91]
 | f+1,i,n,acc,h,h2,hi,ha,hf=>by
  by_cases h1:n≤1
  ·rw [J91,if_pos h1]
   unfold J0l_1
   refine J71 ?_
   unfold J0l_1_step
   rw [J6h (by show ¬ (1:Int) < (n:Int); omega)]
   simp
  ·obtain ⟨b1,b2,b3⟩:=Jb4 n (by omega) (by omega)
   rw [J91,if_neg h1]
   by_cases hl:i < J70 n
   ·rw [if_pos hl,show acc++true::J91 f i (J70 n)=(acc++[true])++J91 f i (J70 n) from by simp]
    have hst:J0l_1_step (i:Int) (n:Int) acc=some (.inl ((i:Int),((J70 n:Nat):Int),acc++[true])):=by
     unfold J0l_1_step
     rw [J6j (by omega),left_eq _ (by omega),J6f,J6g (by simp; omega),decide_eq_true (show (i:Int) < ((J70 n:Nat):Int) by omega),J7m]
    rw [← Jgi f i (J70 n) (acc++[true]) (by omega) (by omega) (by omega) (by simp; omega) (by omega)]
    unfold J0l_1
    rw [J79 hst]
   ·rw [if_neg hl,show acc++false::J91 f (i - J70 n) (n - J70 n)=(acc++[false])++J91 f (i - J70 n) (n - J70 n) from by simp]
    have hst:J0l_1_step (i:Int) (n:Int) acc=some (.inl (((i - J70 n:Nat):Int),((n - J70 n:Nat):Int),acc++[false])):=by
     unfold J0l_1_step
     rw [J6j (by omega),left_eq _ (by omega),J6f,J6g (by simp; omega),decide_eq_false (show ¬ (i:Int) < ((J70 n:Nat):Int) by omega),J6r,J6k (by omega) (by omega),J6k (by omega) (by omega),
      show (i:Int) - ((J70 n:Nat):Int)=((i - J70 n:Nat):Int) from by omega,show (n:Int) - ((J70 n:Nat):Int)=((n - J70 n:Nat):Int) from by omega]
    rw [← Jgi f (i - J70 n) (n - J70 n) (acc++[false]) (by omega) (by omega) (by omega) (by simp; omega) (by omega)]
    unfold J0l_1
    rw [J79 hst]
theorem Jt9 (i n:Nat) (h:i < n) (hn:n≤1000000):J0l (i:Int) (n:Int)=some (J91 n i n):=by
 unfold J0l
 rw [Jgi n i n [] (by omega) (by omega) (by omega) (by simp) (by omega),J6f]
 rfl
def isS (i n:Int):Bool:=decide (0≤i) && (decide (i < n) && decide (n≤1048576))
theorem is_eq (i n:Int):J5w i n=some (isS i n):=by
 unfold J5w isS
 simp only [Jha]
 cases decide (0≤i) <;> cases decide (i < n) <;> simp
theorem Jme (i n:Int):isS i n=true↔0≤i∧i < n∧n≤1048576:=by
 unfold isS; simp
theorem K4 (i n:Int) (hn:n≤1000000∨1048576 < n):J5t i n=some (if isS i n then ((J91 n.toNat i.toNat n.toNat).length:Int) else -1):=by
 unfold J5t
 rw [is_eq,J6f]
 cases h:isS i n with
 | false=>rfl
 | true=>
  obtain ⟨h1,h2,h3⟩:=(Jme i n).1 h
  obtain ⟨a,rfl⟩:=Int.eq_ofNat_of_zero_le h1
  obtain ⟨b,rfl⟩:=Int.eq_ofNat_of_zero_le (show 0≤n by omega)
  rw [show (!true)=false from rfl,J6r,Jt9 a b (by omega) (by omega),J6f]
  rfl
def Jck:List Bool→List (List UInt8)→List UInt8→List UInt8
 | b::bs,p::ps,h=>Jck bs ps (if b then Jez h p else Jez p h)
 | _,_,h=>h
theorem Jdc:∀ (bs:List Bool) (ps:List (List UInt8)) (h:List UInt8) (b:Bool) (p:List UInt8),bs.length=ps.length→Jck (bs++[b]) (ps++[p]) h=if b then Jez (Jck bs ps h) p else Jez p (Jck bs ps h)
 | [],[],h,b,p,_=>rfl
 | x::bs,y::ps,h,b,p,e=>by
  show Jck (bs++[b]) (ps++[p]) _=_
  rw [Jdc bs ps _ b p (by simpa using e)]
  rfl
 | [],_::_,_,_,_,e=>by simp at e
 | _::_,[],_,_,_,e=>by simp at e
theorem Jlk:∀ (bs:List Bool) (ps:List (List UInt8)) (h:List UInt8),h.length=32→(Jck bs ps h).length=32
 | [],_,h,e=>by simpa [Jck] using e
 | _::_,[],h,e=>by simpa [Jck] using e
 | b::bs,p::ps,h,e=>by
  rw [Jck]
  exact Jlk bs ps _ (by split <;> exact J86 _)
theorem Jtx (bs:List Bool) (ps:List (List UInt8)) (h:List UInt8) (i:Nat) (h1:i < bs.length) (h2:i < ps.length) :
  Jck (bs.take (i+1)) (ps.take (i+1)) h=if bs.getD i false then Jez (Jck (bs.take i) (ps.take i) h) (ps.getD i zT) else Jez (ps.getD i zT) (Jck (bs.take i) (ps.take i) h):=by
 rw [List.take_add_one,List.take_add_one,List.getElem?_eq_getElem h1,List.getElem?_eq_getElem h2,Option.toList_some,Option.toList_some,Jdc _ _ _ _ _ (by simp; omega)]
 rw [List.getD_eq_getElem?_getD,List.getElem?_eq_getElem h1,List.getD_eq_getElem?_getD,List.getElem?_eq_getElem h2]
 rfl
theorem K4r (z h:List UInt8) (l:List Bool) (p:List (List UInt8)) (hl:l.length=p.length) (hp:∀ x ∈ p,x.length=32) (hh:h.length=32) (hb:p.length≤100000):J2f_1 p (p.length:Int) 0 z h l=some (z,Jck l.reverse p h):=by
 unfold J2f_1
 have:=J6s (step:=fun (s:Int×List UInt8)=>J2f_1_step p (p.length:Int) s.1 z s.2 l) (fun i (_:Unit)=>((i:Int),Jck (l.reverse.take i) (p.take i) h)) (fun _ _=>()) (fun _=>(z,Jck l.reverse p h)) p.length (fun _ _=>True) (fun i w hi _=>⟨?_,trivial⟩) (fun w _=>?_) p.length 0 () (by omega) trivial
 ·exact this
 ·show J2f_1_step p (p.length:Int) (i:Int) z (Jck (l.reverse.take i) (p.take i) h) l=_
  unfold J2f_1_step
  have hg:(p.getD i (List.replicate 32 0)).length=32:=by
   rw [List.getD_eq_getElem?_getD,List.getElem?_eq_getElem hi]; exact hp _ (List.getElem_mem _)
  have hc:=Jlk (l.reverse.take i) (p.take i) h hh
  have hr:l.getD (l.length - 1 - i) false=l.reverse.getD i false:=by
   rw [List.getD_eq_getElem?_getD,List.getD_eq_getElem?_getD,List.getElem?_reverse (by omega)]
  rw [J6j (by omega),J6g (by omega),J6k (n:=(l.length:Int) - 1) (by omega) (by omega),J6k (by omega) (by omega),J6g (by omega),show Int.toNat ((l.length:Int) - 1 - (i:Int))=l.length - 1 - i from by omega,hr,Int.toNat_natCast,Jmd _ _ hc hg,Jmd _ _ hg hc,J6f,J6f,J6k (by omega) (by omega),
   Jtx _ _ _ _ (by rw [List.length_reverse]; omega) hi]
  cases l.reverse.getD i false <;> rfl
 ·show J2f_1_step p (p.length:Int) (p.length:Int) z _ l=_
  unfold J2f_1_step
  rw [J6h (by omega),List.take_of_length_le (Nat.le_refl _),List.take_of_length_le (by rw [List.length_reverse]; omega)]
def upS (leaf:List UInt8) (i n:Int) (p:List (List UInt8)):List UInt8×Bool:=
 if isS i n∧p.length=(J91 n.toNat i.toNat n.toNat).length then (Jck (J91 n.toNat i.toNat n.toNat).reverse p (K3e leaf),true) else (zT,false)
theorem up_eq (leaf:List UInt8) (hf:leaf.length≤1000000) (i n:Int) (hn:n≤1000000) (p:List (List UInt8)) (hp:∀ x ∈ p,x.length=32) (hb:p.length≤100000):J2f leaf i n p=some (upS leaf i n p):=by
 unfold J2f upS
 rw [is_eq,J6f]
 cases h:isS i n with
 | false=>rw [if_neg (by simp)]; rfl
 | true=>
  obtain ⟨h1,h2,h3⟩:=(Jme i n).1 h
  rw [show (!true)=false from rfl,J6r,K4 i n (.inl hn),h,if_pos rfl,J6f]
  by_cases e:p.length=(J91 n.toNat i.toNat n.toNat).length
  ·rw [J9v (by omega),if_pos ⟨rfl,e⟩,Jmw [leaf] (by simp) (by intro x hx; simp at hx; rw [hx]; exact hf),J6f]
   have hsd:=Jt9 i.toNat n.toNat (by omega) (by omega)
   rw [show ((i.toNat:Nat):Int)=i from by omega,show ((n.toNat:Nat):Int)=n from by omega] at hsd
   rw [hsd,J6f,K4r _ _ _ _ e.symm hp (J85 _) hb,J6f,Jd2]
  ·rw [Jbv (by omega),if_neg (fun h=>e h.2)]
theorem Jmk:∀ (f:Nat) (l:List (List UInt8)) (i:Nat),i < l.length→l.length≤f+1→l.length≤1000→Jck (J91 f i l.length).reverse (J8a f l i) (K3e (l.getD i []))=J8u l
 | 0,l,i,hi,h,h2=>by
  match l,hi,h with
  | [x],hi,h=>
   have:i=0:=by simp at hi; exact hi
   subst this
   rw [Jd2]; rfl
 | f+1,l,i,hi,h,h2=>by
  rw [J91,J8a]
  by_cases h1:l.length≤1
  ·rw [if_pos h1,if_pos h1]
   match l,hi,h1 with
   | [x],hi,h1=>
    have:i=0:=by simp at hi; exact hi
    subst this
    rw [Jd2]; rfl
  ·obtain ⟨b1,b2,b3⟩:=Jb4 l.length (by omega) (by omega)
   rw [if_neg h1,if_neg h1,Jjk l (by omega) (by omega)]
   by_cases hl:i < J70 l.length
   ·rw [if_pos hl,if_pos hl,List.reverse_cons,Jdc _ _ _ _ _ (by rw [List.length_reverse,Ja7 f _ _ (by rw [List.length_take]; omega),List.length_take,Nat.min_eq_left (by omega)]),if_pos rfl]
    have ih:=Jmk f (l.take (J70 l.length)) i (by rw [List.length_take]; omega) (by rw [List.length_take]; omega) (by rw [List.length_take]; omega)
    rw [List.length_take,Nat.min_eq_left (by omega)] at ih
    have hg:(l.take (J70 l.length)).getD i []=l.getD i []:=by
     rw [List.getD_eq_getElem?_getD,List.getD_eq_getElem?_getD,List.getElem?_take_of_lt hl]
    rw [hg] at ih
    rw [ih]
   ·rw [if_neg hl,if_neg hl,List.reverse_cons,Jdc _ _ _ _ _ (by rw [List.length_reverse,Ja7 f _ _ (by rw [List.length_drop]; omega),List.length_drop]),if_neg (by simp)]
    have ih:=Jmk f (l.drop (J70 l.length)) (i - J70 l.length) (by rw [List.length_drop]; omega) (by rw [List.length_drop]; omega) (by rw [List.length_drop]; omega)
    rw [List.length_drop] at ih
    have hg:(l.drop (J70 l.length)).getD (i - J70 l.length) []=l.getD i []:=by
     rw [List.getD_eq_getElem?_getD,List.getD_eq_getElem?_getD,List.getElem?_drop]; congr 2; omega
    rw [hg] at ih
    rw [ih]
theorem Joa:∀ (f k n:Nat),n≤2 * k * 2 ^ f→1≤k→n≤1073741824→k≤1073741824→Jz_1 (n:Int) (k:Int)=some ((Jk3 f k n:Nat):Int)
 | 0,k,n,h,h1,h2,hk=>by
  unfold Jz_1
  refine J71 ?_
  unfold Jz_1_step
  simp only [Nat.pow_zero,Nat.mul_one] at h
  rw [J6k (by omega) (by omega),J6h (by omega)]
  rfl
 | f+1,k,n,h,h1,h2,hk=>by
  rw [Jk3]
  split
  ·rename_i hlt
   rw [← Joa f (2 * k) n (by rw [Nat.pow_succ] at h; rw [Jmn]; exact h) (by omega) h2 (by omega)]
   have hs:Jz_1_step (n:Int) (k:Int)=some (.inl ((2 * k:Nat):Int)):=by
    unfold Jz_1_step
    rw [J6k (by omega) (by omega),J6j (by omega),show 2 * (k:Int)=((2 * k:Nat):Int) from by omega]
   unfold Jz_1
   rw [J79 hs]
  ·rename_i hlt
   unfold Jz_1
   refine J71 ?_
   unfold Jz_1_step
   rw [J6k (by omega) (by omega),J6h (by omega)]
theorem Jx0 (n:Nat) (h:n≤1073741824):Jz (n:Int)=some ((J70 n:Nat):Int):=by
 unfold Jz
 rw [show (1:Int)=((1:Nat):Int) from rfl,Joa 40 1 n (by omega) (by omega) h (by omega),J6f]
 rfl
theorem Jyg (a b:List UInt8) (ha:a.length=32) (hb:b.length=32):Je 1 [a,b]=some (Jez a b):=by
 have hf:[a,b].flatten=a++b:=by simp
 rw [J7w _ _ (by rw [hf,List.length_append]; omega) (by simp),hf]
 rfl
theorem Jge:∀ (k:Nat) (l:List (List UInt8)),l.length < k→l.length≤1000→Small l→J05_f k l=some (J8u l)
 | 0,l,h,_,_=>by omega
 | k+1,l,h,h2,hl=>by
  rw [J05_f]
  match l,h,h2,hl with
  | [],h,h2,hl=>
   rw [J6j (by simp),J7w _ _ (by simp) (by simp),Jl5]; rfl
  | [x],h,h2,hl=>
   have hx:=hl x (by simp)
   have hf:[List.getD [x] (Int.toNat (0:Int)) []].flatten=x:=by simp
   rw [J6h (by simp),J6j (by simp),J6g (by simp),J7w _ _ (by rw [hf]; omega) (by simp),hf,Jd2]; rfl
  | x::y::r,h,h2,hl=>
   have hn:2≤(x::y::r).length:=by simp
   generalize x::y::r=l at h h2 hl hn
   obtain ⟨b1,b2,b3⟩:=Jb4 l.length hn (by omega)
   rw [J6h (by omega),J6h (by omega),Jx0 _ (by omega),J6f,J6g (by omega),Jer,J94,Int.toNat_natCast,Jge k (l.take (J70 l.length)) (by rw [List.length_take]; omega) (by rw [List.length_take]; omega) (Ja9 hl _),J6f,J6g (by omega),
    Jge k (l.drop (J70 l.length)) (by rw [List.length_drop]; omega) (by rw [List.length_drop]; omega) (Ja8 hl _),J6f,Jyg _ _ (J85 _) (J85 _),J6f,Jjk l hn (by omega)]
theorem Jhl (l:List (List UInt8)) (h:l.length < 64) (hl:Small l):J05 l=some (J8u l):=Jge 64 l h (by omega) hl
theorem Jgc:∀ (k:Nat) (l:List (List UInt8)) (i:Int),l.length < k→l.length < 64→Small l→J0u_f k l i=some (if 0≤i∧i < (l.length:Int) then J8a l.length l i.toNat else [])
 | 0,l,i,h,_,_=>by omega
 | k+1,l,i,h,h2,hl=>by
  rw [J0u_f]
  by_cases h0:i < 0
  ·rw [J6j h0,if_neg (by omega)]
  ·rw [J6h h0]
   by_cases h1:(l.length:Int)≤i
   ·rw [J6j h1,if_neg (by omega)]
   ·rw [J6h h1,if_pos (by omega)]
    by_cases h3:l.length=1
    ·rw [J6j (by omega),h3,J8a,if_pos (by omega)]
    ·rw [J6h (by omega),Jx0 _ (by omega),J6f]
     obtain ⟨b1,b2,b3⟩:=Jb4 l.length (by omega) (by omega)
     obtain ⟨q,hq⟩:∃ q,l.length=q+1:=⟨l.length - 1,by omega⟩
     have hp:J8a l.length l i.toNat=if i.toNat < J70 l.length then J8a q (l.take (J70 l.length)) i.toNat++[J8u (l.drop (J70 l.length))] else J8a q (l.drop (J70 l.length)) (i.toNat - J70 l.length)++[J8u (l.take (J70 l.length))]:=by
      conv=>lhs; rw [hq]
      rw [J8a,if_neg (by omega)]
     rw [hp]
     by_cases h4:i.toNat < J70 l.length
     ·have lt:(l.take (J70 l.length)).length=J70 l.length:=by rw [List.length_take]; omega
      have hpl:=Jbf q (l.take (J70 l.length)) i.toNat
      rw [if_pos h4,J6j (by omega),J6g (by omega),Jer,J94,Int.toNat_natCast,Jgc k (l.take (J70 l.length)) i (by omega) (by omega) (Ja9 hl _),J6f,if_pos (by omega),J6g (by omega),Jhl _ (by rw [List.length_drop]; omega) (Ja8 hl _),J6f,
       Jdi _ q _ _ (by omega) (by omega) (by omega),J6g (by simp; omega)]
     ·have ld:(l.drop (J70 l.length)).length=l.length - J70 l.length:=by rw [List.length_drop]
      have hpl:=Jbf q (l.drop (J70 l.length)) (i.toNat - J70 l.length)
      rw [if_neg h4,J6h (by omega),J6g (by omega),Jer,J94,Int.toNat_natCast,J6k (by omega) (by omega),Jgc k (l.drop (J70 l.length)) (i - ((J70 l.length:Nat):Int)) (by omega) (by omega) (Ja8 hl _),J6f,if_pos (by omega),J6g (by omega),Jhl _ (by rw [List.length_take]; omega) (Ja9 hl _),J6f,
       show Int.toNat (i - ((J70 l.length:Nat):Int))=i.toNat - J70 l.length from by omega,Jdi _ q _ _ (by omega) (by omega) (by omega),J6g (by simp; omega)]
theorem K0p (l:List (List UInt8)) (i:Int) (h:l.length < 64) (hl:Small l):J0u l i=some (Jbg l i):=Jgc 64 l i h h hl
abbrev Prf:=Int×Int×List Pr×List (List (List UInt8))×Unit
def Jea (p:Pr):List UInt8:=txtS p.1++txtS p.2.1
def J73 (l:List Pr):List (List UInt8):=l.map Jea
def KvOk (l:List Pr):Prop:=l.length≤60∧∀ p ∈ l,p.1.length≤100000∧p.2.1.length≤100000
theorem J7j (l:List Pr):(J73 l).length=l.length:=by simp [J73]
theorem Jol {p:Pr} (h:p.1.length≤100000∧p.2.1.length≤100000):(Jea p).length≤200100:=by
 have a:=Jjv p.1
 have b:=Jjv p.2.1
 unfold Jea; rw [List.length_append]; omega
theorem Jf5 {l:List Pr} (h:KvOk l):Small (J73 l):=by
 intro x hx
 obtain ⟨p,hp,rfl⟩:=List.mem_map.1 hx
 have:=Jol (h.2 p hp)
 omega
theorem Jql (p:Pr) (h:p.1.length≤100000∧p.2.1.length≤100000):J4u p=some (Jea p):=by
 have:=Jtj [p.1,p.2.1] (by simp) (fun x hx=>by
  rcases List.mem_cons.1 hx with rfl | hx
  ·exact h.1
  ·rcases List.mem_cons.1 hx with rfl | hx
   ·exact h.2
   ·cases hx)
 have e:([p.1,p.2.1]:List (List UInt8)).flatMap txtS=Jea p:=by simp [Jea]
 rw [e] at this
 unfold J4u
 rw [this,J6f]
theorem Jgt (l:List Pr) {i:Nat} (hi:i < l.length):J73 (l.take i)++[Jea (l.getD i zPr)]=J73 (l.take (i+1)):=by
 unfold J73
 rw [List.take_add_one,List.map_append,List.getElem?_eq_getElem hi,List.getD_eq_getElem?_getD,List.getElem?_eq_getElem hi]; rfl
theorem Jla (x0:List Pr) (x1:Int) (x2:Int) (x3:List Pr) (x4:Int) (x5:Int) (x6:Int) (x7:Int) (x8:Unit) (x9:Int) (x10:Int) (x11:Unit) (x12:List (List UInt8)):J04_1_step x0 x1 x2 x3 x4 x5 x6 x7 x8 x9 x10 x11 x12 =
  (fork (decide (x5 < x4)) (need (0≤x5∧x5 < (List.length x3:Int)) (andThen (J4u (List.getD x3 (Int.toNat x5) zPr)) (fun u5=>need (List.length x12+List.length ([u5]:List (List UInt8))≤2147483648) (some (.inl ((w64 (x5+(1:Int))),(x12++([u5]:List (List UInt8))))))))) (some (.inr (x0,x1,x2,x6,x7,x8,x9,x10,x11,x12))):Option ((Int×List (List UInt8))⊕((List Pr)×Int×Int×Int×Int×Unit×Int×Int×Unit×List (List UInt8)))):=rfl
theorem Jlb (x0:List Pr) (x1:Int) (x2:Int) (x3:Int) (x4:Int) (x5:Unit) (x6:Int) (x7:Int) (x8:Unit) (x9:List Pr) (x10:List (List (List UInt8))) (x11:List (List UInt8)):J04_2_step x0 x1 x2 x3 x4 x5 x6 x7 x8 x9 x10 x11 =
  (fork (decide (x2 < x1)) (need (0≤x2∧x2 < (List.length x0:Int)) (need (List.length x9+List.length ([(List.getD x0 (Int.toNat x2) zPr)]:List Pr)≤2147483648) (andThen (J0r x11 x2) (fun u14=>need (List.length x10+List.length ([u14]:List (List (List UInt8)))≤2147483648) (some (.inl ((w64 (x2+(1:Int))),(x9++([(List.getD x0 (Int.toNat x2) zPr)]:List Pr)),(x10++([u14]:List (List (List UInt8))))))))))) (some (.inr (x3,x4,x5,x6,x7,x8,x9,x10))):Option ((Int×(List Pr)×List (List (List UInt8)))⊕(Int×Int×Unit×Int×Int×Unit×(List Pr)×List (List (List UInt8))))):=rfl
noncomputable def J9f (l:List Pr) (f n:Nat):List (List (List UInt8)):=(List.range n).map fun j=>Jbg (J73 l) ((f+j:Nat):Int)
noncomputable def J8c (l:List Pr) (f t:Nat):Prf:=if t≤f then ((l.length:Int),0,[],[],()) else ((l.length:Int),(f:Int),(l.drop f).take (t - f),J9f l f (t - f),())
theorem Jj9 (l:List Pr) (f n:Nat):J9f l f (n+1)=J9f l f n++[Jbg (J73 l) ((f+n:Nat):Int)]:=by
 unfold J9f
 rw [List.range_succ,List.map_append]; rfl
theorem Jdt (l:List Pr) {f n:Nat} (h:f+n < l.length):(l.drop f).take (n+1)=(l.drop f).take n++[l.getD (f+n) zPr]:=by
 rw [List.take_add_one,List.getElem?_drop,List.getElem?_eq_getElem h,List.getD_eq_getElem?_getD,List.getElem?_eq_getElem h]; rfl
theorem Jss (l:List Pr) (h:KvOk l) (a b:Int):J04 l a b=some (J8c l (max a 0).toNat (min b (l.length:Int)).toNat):=by
 have hl:=h.1
 unfold J04
 by_cases c:min b (l.length:Int)≤max a 0
 ·rw [J6j c]
  unfold J8c
  rw [if_pos (by omega)]
 ·rw [J6h c]
  have ef:max a 0=(((max a 0).toNat:Nat):Int):=by omega
  have et:min b (l.length:Int)=(((min b (l.length:Int)).toNat:Nat):Int):=by omega
  generalize hF:(max a 0).toNat=F at *
  generalize hT:(min b (l.length:Int)).toNat=T at *
  rw [ef,et]
  rw [ef,et] at c
  have hFT:F < T:=by omega
  have hTl:T≤l.length:=by omega
  clear hF hT ef et c
  have m1:J04_1 l (F:Int) (T:Int) l (l.length:Int) 0 0 0 () (l.length:Int) 0 () []=some (l,(F:Int),(T:Int),0,0,(),(l.length:Int),0,(),J73 l):=by
   unfold J04_1
   have:=J6s (step:=fun (s:Int×List (List UInt8))=>J04_1_step l (F:Int) (T:Int) l (l.length:Int) s.1 0 0 () (l.length:Int) 0 () s.2) (fun i (_:Unit)=>((i:Int),J73 (l.take i))) (fun _ _=>()) (fun _=>(l,(F:Int),(T:Int),0,0,(),(l.length:Int),0,(),J73 l)) l.length (fun _ _=>True) (fun i w hi _=>⟨?_,trivial⟩) (fun w _=>?_) l.length 0 () (by omega) trivial
   ·exact this
   ·show J04_1_step l (F:Int) (T:Int) l (l.length:Int) (i:Int) 0 0 () (l.length:Int) 0 () (J73 (l.take i))=_
    rw [Jla,J6j (by omega),J6g (by omega),Int.toNat_natCast,Jql _ (h.2 _ (J7d hi)),J6f,J6g (by rw [J7j,List.length_take]; simp only [List.length_cons,List.length_nil]; omega),Jgt l hi,J6k (by omega) (by omega)]
    rfl
   ·show J04_1_step l (F:Int) (T:Int) l (l.length:Int) (l.length:Int) 0 0 () (l.length:Int) 0 () (J73 (l.take l.length))=_
    rw [Jla,J6h (by omega),List.take_of_length_le (Nat.le_refl _)]
  have m2:J04_2 l (T:Int) (F:Int) 0 0 () (l.length:Int) (F:Int) () [] [] (J73 l)=some (0,0,(),(l.length:Int),(F:Int),(),(l.drop F).take (T - F),J9f l F (T - F)):=by
   unfold J04_2
   have:=J6s (step:=fun (s:Int×(List Pr)×List (List (List UInt8)))=>J04_2_step l (T:Int) s.1 0 0 () (l.length:Int) (F:Int) () s.2.1 s.2.2 (J73 l)) (fun i (_:Unit)=>(((F+i:Nat):Int),(l.drop F).take i,J9f l F i)) (fun _ _=>()) (fun _=>(0,0,(),(l.length:Int),(F:Int),(),(l.drop F).take (T - F),J9f l F (T - F))) (T - F) (fun _ _=>True) (fun i w hi _=>⟨?_,trivial⟩) (fun w _=>?_) (T - F) 0 () (by omega) trivial
   ·exact this
   ·show J04_2_step l (T:Int) ((F+i:Nat):Int) 0 0 () (l.length:Int) (F:Int) () ((l.drop F).take i) (J9f l F i) (J73 l)=_
    have e1:((l.drop F).take i).length≤60:=by rw [List.length_take,List.length_drop]; omega
    have e2:(J9f l F i).length=i:=by simp [J9f]
    rw [Jlb,J6j (by omega),J6g (by omega),Int.toNat_natCast,J6g (by simp only [List.length_cons,List.length_nil]; omega),Jy3 (J73 l) _ (by rw [J7j]; omega) (Jf5 h),J6f,J6g (by simp only [List.length_cons,List.length_nil]; omega),J6k (by omega) (by omega),← Jdt l (by omega),← Jj9]
    congr 3
   ·show J04_2_step l (T:Int) ((F+(T - F):Nat):Int) 0 0 () (l.length:Int) (F:Int) () ((l.drop F).take (T - F)) (J9f l F (T - F)) (J73 l)=_
    rw [Jlb,J6h (by omega)]
  rw [m1,J6f]
  simp only
  rw [m2,J6f]
  unfold J8c
  rw [if_neg (by omega)]
theorem Jsx (l:List Pr) (h:KvOk l) (hr:J89 l) (a b:List UInt8):J4s l a b=some (J8c l (J6p l a - 1) (min (J6p l (maxS a b)+1) l.length)):=by
 have hl:=h.1
 have h1:=below_le l a
 have h2:=below_le l (maxS a b)
 unfold J4s
 rw [Jcs l hr (by omega),J6f,Jcs l hr (by omega),J6f,J6k (by omega) (by omega),J6k (by omega) (by omega),Jss l h,J6f]
 congr 2 <;> omega
theorem Kh (l:List Pr) (h:KvOk l) (hr:J89 l) (k:List UInt8):J5m l k=some (if isAt l k then (J8c l (J6p l k) (J6p l k+1),true) else ((0,0,[],[],()),false)):=by
 have hl:=h.1
 have h1:=below_le l k
 unfold J5m
 rw [Jg4 l hr (by omega),J6f]
 cases c:isAt l k with
 | false=>rfl
 | true=>
  have:=c
  unfold isAt at this
  rw [decide_eq_true_eq] at this
  rw [if_pos rfl,Bool.not_true,J6r,Jcs l hr (by omega),J6f,J6k (by omega) (by omega),Jss l h,J6f,if_pos rfl]
  congr 3 <;> omega
theorem Jov (a:List UInt8):maxS a a=a:=by unfold maxS; cases J6z a a <;> rfl
theorem Jvg (l:List Pr) (h:KvOk l) (hr:J89 l) (k:List UInt8):J5a l k=some (if isAt l k then ((0,0,[],[],()),false) else (J8c l (J6p l k - 1) (min (J6p l k+1) l.length),true)):=by
 have hl:=h.1
 unfold J5a
 rw [Jg4 l hr (by omega),J6f]
 cases c:isAt l k with
 | true=>rfl
 | false=>
  rw [if_neg (by simp),J6r,Jsx l h hr,Jov,J6f,if_neg (by simp)]
theorem Jsp (l:List Pr) (h:l.length≤60) (f n:Nat):(J9f l f n).length=n∧∀ x ∈ J9f l f n,x.length≤60:=by
 refine ⟨by simp [J9f],fun x hx=>?_⟩
 obtain ⟨j,_,rfl⟩:=List.mem_map.1 hx
 unfold Jbg
 split
 ·have:=Jbf (J73 l).length (J73 l) ((f+j:Nat):Int).toNat
  rw [J7j] at this ⊢; omega
 ·exact Nat.zero_le _
theorem K08 (n:Nat) (h:n≤1000000000):J2c (n:Int)=some []:=by
 unfold J2c
 rw [J6h (by omega),Int.sub_zero,J6k (by omega) (by omega)]
 by_cases c:(0:Int) < (n:Int)
 ·rw [J6j c,J6g ⟨rfl,rfl⟩,J6g (by rw [List.length_replicate]; omega),J6g (by omega),J6g (by rw [List.length_replicate]; omega)]
  rfl
 ·rw [J6h c]
theorem Jup (l:List (List Pr)) (h:l.flatten.length≤1000000000) (hl:l.length≤1000000):J4 l=some l.flatten:=by
 have ht:∀ i,((l.take i).flatten).length≤1000000000:=fun i=>Nat.le_trans (Jaz l i) h
 have m1:J4_1 l 0 l (l.length:Int) 0=some (l,(l.flatten.length:Int)):=by
  unfold J4_1
  have:=J6s (step:=fun (s:Int×Int)=>J4_1_step l s.1 l (l.length:Int) s.2) (fun i (_:Unit)=>((((l.take i).flatten).length:Int),(i:Int))) (fun _ _=>()) (fun _=>(l,(l.flatten.length:Int))) l.length (fun _ _=>True) (fun i w hi _=>⟨?_,trivial⟩) (fun w _=>?_) l.length 0 () (by omega) trivial
  ·exact this
  ·show J4_1_step l (((l.take i).flatten).length:Int) l (l.length:Int) (i:Int)=_
   unfold J4_1_step
   have e:=congrArg List.length (getD_take l hi)
   rw [List.length_append] at e
   have b:=ht (i+1)
   rw [J6j (by omega),J6g (by omega),Int.toNat_natCast,J6k (n:=(((l.take i).flatten).length:Int)+((l.getD i []).length:Int)) (by omega) (by omega),J6h (by omega),J6k (by omega) (by omega)]
   congr 3
   omega
  ·show J4_1_step l (((l.take l.length).flatten).length:Int) l (l.length:Int) (l.length:Int)=_
   unfold J4_1_step
   rw [J6h (by omega),List.take_of_length_le (Nat.le_refl _)]
 have m2:J4_2 l (l.length:Int) 0 []=some l.flatten:=by
  unfold J4_2
  have:=J6s (step:=fun (s:Int×List Pr)=>J4_2_step l (l.length:Int) s.1 s.2) (fun i (_:Unit)=>((i:Int),(l.take i).flatten)) (fun _ _=>()) (fun _=>l.flatten) l.length (fun _ _=>True) (fun i w hi _=>⟨?_,trivial⟩) (fun w _=>?_) l.length 0 () (by omega) trivial
  ·exact this
  ·show J4_2_step l (l.length:Int) (i:Int) ((l.take i).flatten)=_
   unfold J4_2_step
   have e:=congrArg List.length (getD_take l hi)
   rw [List.length_append] at e
   have b:=ht (i+1)
   rw [J6j (by omega),J6g (by omega),Int.toNat_natCast,J6g (by omega),J6k (by omega) (by omega),getD_take l hi]
   rfl
  ·show J4_2_step l (l.length:Int) (l.length:Int) ((l.take l.length).flatten)=_
   unfold J4_2_step
   rw [J6h (by omega),List.take_of_length_le (Nat.le_refl _)]
 unfold J4
 rw [m1,J6f]
 simp only
 rw [K08 _ h,J6f,m2,J6f]
abbrev Stt:=List Pr×Int×List (List Pr)×Unit
def mayP (p:Pr):Bool:=!decide (p.1=[]) && (decide ((p.1.length:Int)≤16) && decide ((p.2.1.length:Int)≤24))
theorem Jxk (p:Pr):J5x p=some (mayP p):=by
 unfold J5x mayP
 cases decide (p.1=[]) <;> cases decide ((p.1.length:Int)≤16) <;> rfl
def putP (l:List Pr) (p:Pr):List Pr:=if isAt l p.1 then l.take (J6p l p.1)++p::l.drop (J6p l p.1+1) else l.take (J6p l p.1)++p::l.drop (J6p l p.1)
def setP (l:List Pr) (p:Pr):List Pr×Bool:=if mayP p && (isAt l p.1 || decide (l.length < 30)) then (putP l p,true) else (l,false)
theorem Je7 {l:List Pr} {k:List UInt8} (h:isAt l k=true):J6p l k < l.length∧(l.getD (J6p l k) zPr).1=k:=by
 unfold isAt at h; rw [decide_eq_true_eq] at h; exact h
theorem Jxb (l:List Pr) (hr:J89 l) (hl:l.length≤1000) (p:Pr):J5k l p=some (setP l p):=by
 have hb:=below_le l p.1
 have c3:∀ a b c:List Pr,J4 [a,b,c]=some (a++(b++(c++[])))∨1000000000 < (a++(b++(c++[]))).length:=fun a b c=>by
  by_cases q:([a,b,c]:List (List Pr)).flatten.length≤1000000000
  ·exact .inl (Jup _ q (by simp))
  ·right
   have:([a,b,c]:List (List Pr)).flatten=a++(b++(c++[])):=rfl
   rw [← this]; omega
 have c4:∀ a c:List Pr,a.length≤1000→c.length≤1000→J4 [a,[p],c]=some (a++p::c):=fun a c h1 h2=>by
  rcases c3 a [p] c with e | e
  ·rw [e,List.append_nil]; rfl
  ·simp only [List.length_append,List.length_cons,List.length_nil] at e; omega
 unfold J5k setP putP
 rw [Jfe l hr hl,J6f,Jxk,J6f,J6k (by omega) (by omega)]
 cases hm:mayP p with
 | false=>rfl
 | true=>
  rw [Bool.not_true,J6r,Bool.true_and]
  cases ha:isAt l p.1 with
  | true=>
   have:=(Je7 ha).1
   have e1:cutL l 0 (J6p l p.1:Int)=l.take (J6p l p.1):=by rw [Jer,Int.toNat_natCast]
   have e2:cutL l ((J6p l p.1:Int)+1) (l.length:Int)=l.drop (J6p l p.1+1):=by rw [J94]; rfl
   rw [Bool.not_true,J6r,J7m,J6g (by omega),J6g (by omega),e1,e2,c4 _ _ (by rw [List.length_take]; omega) (by rw [List.length_drop]; omega),J6f,Bool.true_or,if_pos rfl,if_pos rfl]
  | false=>
   have e1:cutL l 0 (J6p l p.1:Int)=l.take (J6p l p.1):=by rw [Jer,Int.toNat_natCast]
   have e2:cutL l (J6p l p.1:Int) (l.length:Int)=l.drop (J6p l p.1):=by rw [J94,Int.toNat_natCast]
   rw [Bool.not_false,J7m,Bool.false_or]
   by_cases c:l.length < 30
   ·rw [J6h (by omega),J6r,J6g (by omega),J6g (by omega),e1,e2,c4 _ _ (by rw [List.length_take]; omega) (by rw [List.length_drop]; omega),J6f,decide_eq_true c,if_pos rfl,if_neg (by simp)]
   ·rw [J6j (by omega),decide_eq_false c,if_neg (by simp)]
theorem Juc {l:List Pr} (h:J89 l) (n:Nat):J89 (l.take n):=h.sublist (List.take_sublist n l)
theorem Jub {l:List Pr} (h:J89 l) (n:Nat):J89 (l.drop n):=h.sublist (List.drop_sublist n l)
theorem Jqn {l:List Pr} {k:List UInt8} {p:Pr} (h:p ∈ l.take (J6p l k)):J6z p.1 k=true:=by
 obtain ⟨i,hi,rfl⟩:=List.getElem_of_mem h
 rw [List.length_take] at hi
 rw [List.getElem_take]
 have:=Jdb l k i (by omega)
 rw [List.getD_eq_getElem?_getD,List.getElem?_eq_getElem (by omega)] at this
 exact this
theorem Jgv {l:List Pr} {n:Nat} {p:Pr} (h:p ∈ l.drop n):∃ i,n≤i∧i < l.length∧l.getD i zPr=p:=by
 obtain ⟨i,hi,rfl⟩:=List.getElem_of_mem h
 rw [List.length_drop] at hi
 refine ⟨n+i,by omega,by omega,?_⟩
 rw [List.getElem_drop,List.getD_eq_getElem?_getD,List.getElem?_eq_getElem (by omega)]; rfl
theorem Jwe {l:List Pr} (hr:J89 l) {k:List UInt8} {n:Nat} (h:isAt l k=false∧n=J6p l k∨isAt l k=true∧n=J6p l k+1) {p:Pr} (hp:p ∈ l.drop n):J6z k p.1=true:=by
 obtain ⟨i,h1,h2,rfl⟩:=Jgv hp
 rcases h with ⟨ha,rfl⟩ | ⟨ha,rfl⟩
 ·have b:J6z (l.getD i zPr).1 k=false:=by
   cases q:J6z (l.getD i zPr).1 k with
   | false=>rfl
   | true=>have:=(J8l hr k h2).1 q; omega
  rcases Jfm _ _ b with e | e
  ·exact absurd ((Js4 hr k).2 ⟨_,J7d h2,e⟩) (by rw [ha]; simp)
  ·exact e
 ·have e:=(Je7 ha).2
  have:=Jf3 hr (i:=J6p l k) (j:=i) (by omega) h2
  rw [e] at this; exact this
theorem Jy6 {l:List Pr} (hr:J89 l) (p:Pr):J89 (putP l p):=by
 have key:∀ n,(isAt l p.1=false∧n=J6p l p.1∨isAt l p.1=true∧n=J6p l p.1+1)→J89 (l.take (J6p l p.1)++p::l.drop n):=fun n hn=>by
  refine List.pairwise_append.2 ⟨Juc hr _,List.pairwise_cons.2 ⟨fun q hq=>Jwe hr hn hq,Jub hr _⟩,fun a ha b hb=>?_⟩
  have h1:=Jqn ha
  rcases List.mem_cons.1 hb with rfl | hb
  ·exact h1
  ·exact J7z _ _ _ h1 (Jwe hr hn hb)
 unfold putP
 cases ha:isAt l p.1 with
 | true=>rw [if_pos rfl]; exact key _ (.inr ⟨ha,rfl⟩)
 | false=>rw [if_neg (by simp)]; exact key _ (.inl ⟨ha,rfl⟩)
theorem K0a (l:List Pr) (p:Pr):(putP l p).length=if isAt l p.1 then l.length else l.length+1:=by
 have hb:=below_le l p.1
 unfold putP
 cases ha:isAt l p.1 with
 | true=>
  have:=(Je7 ha).1
  rw [if_pos rfl,if_pos rfl,List.length_append,List.length_cons,List.length_take,List.length_drop]; omega
 | false=>rw [if_neg (by simp),if_neg (by simp),List.length_append,List.length_cons,List.length_take,List.length_drop]; omega
theorem Jyr {l:List Pr} (hr:J89 l) (p:Pr):J89 (setP l p).1:=by
 unfold setP
 split
 ·exact Jy6 hr p
 ·exact hr
theorem K0u {l:List Pr} (hl:l.length≤30) (p:Pr):(setP l p).1.length≤30:=by
 unfold setP
 split
 ·rename_i h
  rw [Bool.and_eq_true,Bool.or_eq_true,decide_eq_true_eq] at h
  show (putP l p).length≤30
  rw [K0a]
  split
  ·exact hl
  ·rename_i h2
   have:=h.2.resolve_left h2
   omega
 ·exact hl
theorem K0b {l:List Pr} {p q:Pr} (h:q ∈ putP l p):q=p∨q ∈ l:=by
 unfold putP at h
 split at h
 ·rcases List.mem_append.1 h with h | h
  ·exact .inr (List.mem_of_mem_take h)
  ·rcases List.mem_cons.1 h with h | h
   ·exact .inl h
   ·exact .inr (List.mem_of_mem_drop h)
 ·rcases List.mem_append.1 h with h | h
  ·exact .inr (List.mem_of_mem_take h)
  ·rcases List.mem_cons.1 h with h | h
   ·exact .inl h
   ·exact .inr (List.mem_of_mem_drop h)
def RowB (l:List Pr):Prop:=J89 l∧l.length≤30∧∀ p ∈ l,p.1.length≤16∧p.2.1.length≤24
theorem Jc7:RowB []:=⟨List.Pairwise.nil,by simp,by simp⟩
theorem K0v {l:List Pr} (h:RowB l) (p:Pr):RowB (setP l p).1:=by
 refine ⟨Jyr h.1 p,K0u h.2.1 p,fun q hq=>?_⟩
 unfold setP at hq
 split at hq
 ·rename_i c
  rw [Bool.and_eq_true] at c
  have hm:=c.1
  unfold mayP at hm
  simp only [Bool.and_eq_true,decide_eq_true_eq] at hm
  rcases K0b hq with rfl | hq
  ·omega
  ·exact h.2.2 q hq
 ·exact h.2.2 q hq
def StOk (s:Stt):Prop:=RowB s.1∧0≤s.2.1∧s.2.1≤16∧(s.2.2.1.length:Int)=min s.2.1 6∧∀ l ∈ s.2.2.1,RowB l
theorem Jz4:StOk ([],0,[],()):=⟨Jc7,by decide,by decide,by decide,by simp⟩
theorem K0z (s:Stt) (h:StOk s) (p:Pr):J0k p s=some ((setP s.1 p).2,((setP s.1 p).1,s.2.1,s.2.2.1,())):=by
 have:=h.1.2.1
 unfold J0k
 rw [Jxb _ h.1.1 (by omega),J6f]
theorem st_set {s:Stt} (h:StOk s) (p:Pr):StOk ((setP s.1 p).1,s.2.1,s.2.2.1,()):=⟨K0v h.1 p,h.2⟩
def Jog (k:List (List Pr)) (l:List Pr):List (List Pr):=if 6 < k.length+1 then (k++[l]).drop 1 else k++[l]
def Jfz (s:Stt):Int×Stt:=if s.2.1=16 then (0,s) else (s.2.1+1,(s.1,s.2.1+1,Jog s.2.2.1 s.1,()))
theorem Jhm (s:Stt) (h:s.1.length≤2147483648):J0z s=some s.1:=by
 unfold J0z Jf
 rw [J6g h,J6f]
theorem Jjq (s:Stt) (h:StOk s):J12 s=some (Jfz s):=by
 obtain ⟨⟨h1,h2,_⟩,h3,h4,h5,h6⟩:=h
 unfold J12 Jfz Jog
 by_cases c:s.2.1=16
 ·rw [J6j c,if_pos c]
 ·have e:J2u s.2.2.1=some s.2.2.1:=by unfold J2u; rw [J6g (by omega)]
  rw [J6h c,if_neg c,e,J6f,J6k (by omega) (by omega),Jhm _ (by show s.1.length≤_; omega),J6f,J6g (by simp only [List.length_cons,List.length_nil]; omega)]
  have hl:(s.2.2.1++[s.1]).length=s.2.2.1.length+1:=by rw [List.length_append]; rfl
  show fork (decide ((6:Int) < ((s.2.2.1++[s.1]).length:Int))) (need (0≤(1:Int)∧(1:Int)≤((s.2.2.1++[s.1]).length:Int)∧((s.2.2.1++[s.1]).length:Int)≤((s.2.2.1++[s.1]).length:Int)) (some (s.2.1+1,(s.1,s.2.1+1,cutL (s.2.2.1++[s.1]) 1 ((s.2.2.1++[s.1]).length:Int),())))) (some (s.2.1+1,(s.1,s.2.1+1,s.2.2.1++[s.1],())))=_
  rw [hl]
  by_cases q:6 < s.2.2.1.length+1
  ·rw [J6j (by omega),J6g (by omega),if_pos q,← hl,J94]; rfl
  ·rw [J6h (by omega),if_neg q]
theorem Jx7 (k:List (List Pr)) (l:List Pr) (h:k.length≤6):(Jog k l).length=min (k.length+1) 6:=by
 unfold Jog
 split
 ·rw [List.length_drop,List.length_append,List.length_cons,List.length_nil]; omega
 ·rw [List.length_append,List.length_cons,List.length_nil]; omega
theorem Jx8 {k:List (List Pr)} {l x:List Pr} (h:x ∈ Jog k l):x ∈ k∨x=l:=by
 unfold Jog at h
 have:x ∈ k++[l]:=by
  split at h
  ·exact List.mem_of_mem_drop h
  ·exact h
 rcases List.mem_append.1 this with h | h
 ·exact .inl h
 ·exact .inr (List.mem_singleton.1 h)
theorem Jpl {s:Stt} (h:StOk s):StOk (Jfz s).2:=by
 obtain ⟨h1,h3,h4,h5,h6⟩:=h
 unfold Jfz
 by_cases c:s.2.1=16
 ·rw [if_pos c]; exact ⟨h1,h3,h4,h5,h6⟩
 ·rw [if_neg c]
  refine ⟨h1,by show 0≤s.2.1+1; omega,by show s.2.1+1≤16; omega,?_,fun l hl=>?_⟩
  ·show ((Jog s.2.2.1 s.1).length:Int)=min (s.2.1+1) 6
   rw [Jx7 _ _ (by omega)]; omega
  ·rcases Jx8 hl with hl | rfl
   ·exact h6 l hl
   ·exact h1
def lowS (s:Stt):Int:=s.2.1 - (s.2.2.1.length:Int)+1
def atS (s:Stt) (n:Int):List Pr×Bool:=if n < lowS s∨s.2.1 < n then ([],false) else (s.2.2.1.getD (n - lowS s).toNat [],true)
theorem low_eq (s:Stt) (h:StOk s):J1r s=some (lowS s):=by
 obtain ⟨h1,h3,h4,h5,h6⟩:=h
 unfold J1r lowS
 rw [J6k (n:=s.2.1 - _) (by omega) (by omega),J6k (by omega) (by omega)]
theorem Jwu {k:List (List Pr)} (h:∀ l ∈ k,RowB l) (i:Nat):RowB (k.getD i []):=by
 by_cases c:i < k.length
 ·exact h _ (J7d c)
 ·rw [List.getD_eq_getElem?_getD,List.getElem?_eq_none (by omega)]
  exact Jc7
theorem K4o (s:Stt) (h:StOk s) (n:Int):J3p n s=some (atS s n):=by
 have hlow:=low_eq s h
 obtain ⟨h1,h3,h4,h5,h6⟩:=h
 have hl:lowS s=s.2.1 - (s.2.2.1.length:Int)+1:=rfl
 unfold J3p atS
 rw [hlow,J6f]
 by_cases c1:n < lowS s
 ·rw [J6j c1,if_pos (.inl c1)]
 ·rw [J6h c1]
  by_cases c2:s.2.1 < n
  ·rw [J6j c2,if_pos (.inr c2)]
  ·have:=(Jwu h6 (n - lowS s).toNat).2.1
   rw [J6h c2,if_neg (by omega),J6f,J6k (by omega) (by omega),J6g (by omega)]
   unfold Jf
   rw [J6g (by omega),J6f]
theorem Jd8 (a lo hi:Int) (h:lo≤hi) (h1:-1099511627776≤lo) (h2:hi≤1099511627776):∃ r,J07 a lo hi=some r∧lo≤r∧r≤hi:=by
 unfold J07
 have hn:w64 (w64 (hi - lo)+1)=hi - lo+1:=by simp (disch:=omega) only [J6k]
 rw [hn,J6g (by omega)]
 have hb:Int.tmod a (hi - lo+1) < hi - lo+1∧-(hi - lo+1) < Int.tmod a (hi - lo+1):=by
  constructor
  ·exact Int.tmod_lt_of_pos a (by omega)
  ·have:=Int.tmod_lt_of_pos (-a) (b:=hi - lo+1) (by omega)
   rw [Int.neg_tmod] at this; omega
 generalize Int.tmod a (hi - lo+1)=t at hb
 by_cases ht:t < 0
 ·rw [J6j ht]
  simp (disch:=omega) only [J6k]
  exact ⟨_,rfl,by omega,by omega⟩
 ·rw [J6h ht]
  simp (disch:=omega) only [J6k]
  exact ⟨_,rfl,by omega,by omega⟩
def nm (i:Nat):List UInt8:=([[118,97],[118,98],[118,99],[118,100]]:List (List UInt8)).getD i []
def ky (i:Nat):List UInt8:=List.set (List.replicate 32 (0:UInt8)) 0 (UInt8.ofNat (Int.toNat (((i:Int)+1) % 256)))
def wv (a:Int):Int:=(J07 a 1 9).getD 1
theorem wv_eq (a:Int):J07 a 1 9=some (wv a)∧1≤wv a∧wv a≤9:=by
 obtain ⟨r,h,h1,h2⟩:=Jd8 a 1 9 (by omega) (by omega) (by omega)
 unfold wv; rw [h]; exact ⟨rfl,h1,h2⟩
def pw (ps:List Int) (i:Nat):Int:=if i < ps.length then wv (ps.getD i 0) else 1
theorem pw_b (ps:List Int) (i:Nat):1≤pw ps i∧pw ps i≤9:=by
 unfold pw; split
 ·exact (wv_eq _).2
 ·omega
def setN (ps:List Int):Nat:=max 1 (min 4 ps.length)
def Jqo (p:Nat→Int) (i:Nat):Val:=(nm i,p i,ky i,())
def setS (ps:List Int):List Val:=(List.range (setN ps)).map (Jqo (pw ps))
def Jgg (ps:List Int) (i:Nat) (l:List Val):List Val:=if i=0∨i < ps.length then l++[Jqo (pw ps) i] else l
theorem K4i (ps:List Int):J7b (Jgg ps) 0 4 []=setS ps:=by
 unfold setS setN
 simp only [J7b,Jgg]
 by_cases h3:3 < ps.length
 ·rw [show max 1 (min 4 ps.length)=4 from by omega]; simp [h3,show 1 < ps.length from by omega,show 2 < ps.length from by omega,List.range_succ]
 ·by_cases h2:2 < ps.length
  ·rw [show max 1 (min 4 ps.length)=3 from by omega]; simp [h3,h2,show 1 < ps.length from by omega,List.range_succ]
  ·by_cases h1:1 < ps.length
   ·rw [show max 1 (min 4 ps.length)=2 from by omega]; simp [h3,h2,h1,List.range_succ]
   ·rw [show max 1 (min 4 ps.length)=1 from by omega]; simp [h3,h2,h1,List.range_succ]
theorem set_eq (ps:List Int) (hp:ps.length≤140737488351232):J09 ps=some (setS ps):=by
 unfold J09 J4l
 rw [J6f]
 have main:J09_1 ps 4 0 [] [[118,97],[118,98],[118,99],[118,100]]=some (J7b (Jgg ps) 0 4 []):=by
  unfold J09_1
  refine J6s (step:=fun (s:Int×List Val)=>J09_1_step ps 4 s.1 s.2 [[118,97],[118,98],[118,99],[118,100]]) (fun i l=>((i:Int),l)) (Jgg ps) (fun l=>l) 4 (fun i l=>l.length≤i) (fun i l hi hl=>⟨?_,?_⟩) (fun l hl=>?_) 4 0 [] (by omega) (by simp)
  ·show J09_1_step ps 4 (i:Int) l [[118,97],[118,98],[118,99],[118,100]]=_
   unfold J09_1_step
   have hlen:List.length [([118,97]:List UInt8),[118,98],[118,99],[118,100]]=4:=rfl
   have hw:=(wv_eq (ps.getD i 0)).1
   have ho:∀ x:Val,List.length [x]=1:=fun _=>rfl
   simp (disch:=omega) only [hlen,J6j,J6g,Int.toNat_natCast,J6k,hw,J6f,ho]
   unfold Jgg Jqo pw
   by_cases h0:i=0
   ·rw [J6j (by omega),if_pos (Or.inl h0)]
    by_cases hc:i < ps.length
    ·rw [J6j (by omega),J6g (by omega),if_pos hc]; rfl
    ·rw [J6h (by omega),if_neg hc]; rfl
   ·rw [J6h (by omega)]
    by_cases hc:i < ps.length
    ·rw [J6j (by omega),J6g (by omega),if_pos (Or.inr hc),if_pos hc]; rfl
    ·rw [J6h (by omega),if_neg (by omega)]; rfl
  ·unfold Jgg
   split
   ·simp; omega
   ·omega
  ·show J09_1_step ps 4 4 l _=_
   unfold J09_1_step
   rfl
 show andThen (J09_1 ps 4 0 [] [[118,97],[118,98],[118,99],[118,100]]) _=_
 rw [main,J6f,K4i]
def Jf0:List (List UInt8):=[[97],[97,98],[97,98,99],[98],[98,97],[115,47,97],[115,47,98],[115,47,99],[116],[117],[122],[122,122]]
theorem K3d:J3t=some Jf0:=rfl
theorem Jx9 (n:Int):∃ i,i < 12∧J3o n=some (Jf0.getD i []):=by
 obtain ⟨r,er,r1,r2⟩:=Jd8 n 0 11 (by omega) (by omega) (by omega)
 refine ⟨r.toNat,by omega,?_⟩
 have hk:Jf0.length=12:=rfl
 unfold J3o
 rw [K3d,J6f,J6f,hk,show w64 (((12:Nat):Int) - 1)=11 from rfl,er,J6f,J6g (by omega)]
def Jzo (l:List Pr):Prop:=J89 l∧l.length≤12∧(∀ p ∈ l,p.1 ∈ Jf0)∧∀ p ∈ l,p.2.1.length≤8
theorem Js8:∀ k ∈ Jf0,1≤k.length∧k.length≤3:=by decide
theorem row_kv {l:List Pr} (h:Jzo l):KvOk l:=⟨by have:=h.2.1; omega,fun p hp=>⟨by have:=Js8 _ (h.2.2.1 p hp); omega,by have:=h.2.2.2 p hp; omega⟩⟩
theorem Jin:∀ {a b:List Pr},J89 a→J89 b→(∀ q,q ∈ a↔q ∈ b)→a=b
 | [],[],_,_,_=>rfl
 | [],y::b,_,_,h=>by cases (h y).2 List.mem_cons_self
 | x::a,[],_,_,h=>by cases (h x).1 List.mem_cons_self
 | x::a,y::b,ha,hb,h=>by
  obtain ⟨a1,a2⟩:=List.pairwise_cons.1 ha
  obtain ⟨b1,b2⟩:=List.pairwise_cons.1 hb
  have e:x=y:=by
   rcases List.mem_cons.1 ((h x).1 List.mem_cons_self) with e | e
   ·exact e
   ·rcases List.mem_cons.1 ((h y).2 List.mem_cons_self) with e2 | e2
    ·exact e2.symm
    ·have:=J7z _ _ _ (b1 x e) (a1 y e2)
     rw [J9t] at this; cases this
  subst e
  congr 1
  refine Jin a2 b2 fun q=>⟨fun hq=>?_,fun hq=>?_⟩
  ·rcases List.mem_cons.1 ((h q).1 (List.mem_cons_of_mem _ hq)) with e | e
   ·have:=a1 q hq
    rw [e,J9t] at this; cases this
   ·exact e
  ·rcases List.mem_cons.1 ((h q).2 (List.mem_cons_of_mem _ hq)) with e | e
   ·have:=b1 q hq
    rw [e,J9t] at this; cases this
   ·exact e
theorem K47 {l:List Pr} (h:RowB l):KvOk l:=⟨by have:=h.2.1; omega,fun p hp=>by have:=h.2.2 p hp; omega⟩
def Jnn (n:Nat) (r:List UInt8):List UInt8:=sha (83::(oneS (n:Int)++r))
noncomputable def J9s (l:List Pr):List UInt8:=Jnn l.length (J8u (J73 l))
theorem Jz2 (x0:List Pr) (x1:List Pr) (x2:Int) (x3:Int) (x4:List UInt8) (x5:List (List UInt8)):J0p_1_step x0 x1 x2 x3 x4 x5 =
  (fork (decide (x3 < x2)) (need (0≤x3∧x3 < (List.length x1:Int)) (andThen (J4u (List.getD x1 (Int.toNat x3) zPr)) (fun u4=>need (List.length x5+List.length ([u4]:List (List UInt8))≤2147483648) (some (.inl ((w64 (x3+(1:Int))),(x5++([u4]:List (List UInt8))))))))) (some (.inr (x0,x4,x5))):Option ((Int×List (List UInt8))⊕((List Pr)×List UInt8×List (List UInt8)))):=rfl
theorem Jjr (l:List Pr) (h:KvOk l):J0p l=some (J9s l):=by
 have hl:=h.1
 have m1:J0p_1 l l (l.length:Int) 0 (List.replicate 32 0) []=some (l,List.replicate 32 0,J73 l):=by
  unfold J0p_1
  have:=J6s (step:=fun (s:Int×List (List UInt8))=>J0p_1_step l l (l.length:Int) s.1 (List.replicate 32 0) s.2) (fun i (_:Unit)=>((i:Int),J73 (l.take i))) (fun _ _=>()) (fun _=>(l,List.replicate 32 0,J73 l)) l.length (fun _ _=>True) (fun i w hi _=>⟨?_,trivial⟩) (fun w _=>?_) l.length 0 () (by omega) trivial
  ·exact this
  ·show J0p_1_step l l (l.length:Int) (i:Int) (List.replicate 32 0) (J73 (l.take i))=_
   rw [Jz2,J6j (by omega),J6g (by omega),Int.toNat_natCast,Jql _ (h.2 _ (J7d hi)),J6f,J6g (by rw [J7j,List.length_take]; simp only [List.length_cons,List.length_nil]; omega),Jgt l hi,J6k (by omega) (by omega)]
   rfl
  ·show J0p_1_step l l (l.length:Int) (l.length:Int) (List.replicate 32 0) (J73 (l.take l.length))=_
   rw [Jz2,J6h (by omega),List.take_of_length_le (Nat.le_refl _)]
 have hp:putS [(l.length:Int)]=oneS l.length:=by simp [putS]
 have h1:=J7y (l.length:Int)
 have h2:=J85 (J73 l)
 have hf:[oneS (l.length:Int),J8u (J73 l)].flatten=oneS (l.length:Int)++J8u (J73 l):=by simp
 unfold J0p
 rw [m1,J6f]
 dsimp only
 rw [Jmw _ (by rw [J7j]; omega) (Jf5 h),J6f,put_eq _ (by simp),J6f,hp,J81 _ _ (by rw [hf,List.length_append]; omega) (by simp),hf]
 rfl
theorem Jur (a b:List Pr) (hl:a.length=b.length) {ρ:Type} (r r0:ρ) (hr:r≠r0):scan (fun i=>if a.getD i zPr=b.getD i zPr then none else some r) r0 0 a.length=if a=b then r0 else r:=by
 by_cases e:a=b
 ·subst e
  rw [if_pos rfl]
  exact Jbk _ _ (fun j _ _=>if_pos rfl)
 ·rw [if_neg e]
  have:∃ j,j < a.length∧a.getD j zPr≠b.getD j zPr:=by
   apply Classical.byContradiction
   intro hn
   apply e
   apply List.ext_getElem hl
   intro i h1 h2
   apply Classical.byContradiction
   intro hne
   exact hn ⟨i,h1,by rw [List.getD_eq_getElem?_getD,List.getD_eq_getElem?_getD,List.getElem?_eq_getElem h1,List.getElem?_eq_getElem h2]; exact hne⟩
  obtain ⟨j,hj⟩:=Nat.find_of this
  refine Jaj a.length 0 j (Nat.zero_le _) (by omega) (fun j' _ h=>if_pos ?_) (if_neg hj.1.2)
  exact Classical.byContradiction fun hne=>hj.2 j' h ⟨by omega,hne⟩
theorem Jml (x0:List Pr) (x1:List Pr) (x2:Int) (x3:Int):Jq_1_step x0 x1 x2 x3 =
  (fork (decide (x3 < x2)) (need (0≤x3∧x3 < (List.length x0:Int)) (need (0≤x3∧x3 < (List.length x1:Int)) (fork (!(Ty.beq (.fld .str (.fld .str .unit)) (List.getD x0 (Int.toNat x3) zPr) (List.getD x1 (Int.toNat x3) zPr))) (some (.inr (.inl false))) (some (.inl (w64 (x3+(1:Int)))))))) (some (.inr (.inr ()))):Option ((Int)⊕((Bool)⊕(Unit)))):=rfl
theorem Jp2 (a b:List Pr) (ha:a.length≤1073741824):Jq a b=some (decide (a=b)):=by
 by_cases hl:a.length=b.length
 ·have h:Jq_1 a b (a.length:Int) 0=some (scan (fun i=>if a.getD i zPr=b.getD i zPr then none else some (.inl false)) (.inr ()) 0 a.length):=by
   unfold Jq_1
   refine J97 (step:=fun (s:Int)=>Jq_1_step a b (a.length:Int) s) (fun i=>(i:Int)) _ _ a.length (fun i hi h=>?_) (fun i r hi h=>?_) ?_ a.length 0 (by omega)
   ·rw [Jml,J6j (by omega),J6g (by omega),J6g (by omega),Int.toNat_natCast,pbeq,J6k (by omega) (by omega)]
    by_cases e:a.getD i zPr=b.getD i zPr
    ·rw [J9v e]; rfl
    ·rw [if_neg e] at h; cases h
   ·rw [Jml,J6j (by omega),J6g (by omega),J6g (by omega),Int.toNat_natCast,pbeq]
    by_cases e:a.getD i zPr=b.getD i zPr
    ·rw [if_pos e] at h; cases h
    ·rw [if_neg e] at h; injection h with h; subst h; rw [Jbv e]
   ·rw [Jml,J6h (by omega)]
  unfold Jq
  rw [J9v (by omega),h,J6f,Jur a b hl _ _ (by simp)]
  by_cases e:a=b
  ·rw [if_pos e,decide_eq_true e]
  ·rw [if_neg e,decide_eq_false e]
 ·unfold Jq
  rw [Jbv (by omega),decide_eq_false (fun e=>hl (by rw [e]))]
abbrev hq (a b:List UInt8):Bool:=Ty.beq (.arr 32 (.int .u8)) a b
theorem K1o (a b:List UInt8):hq a b=true↔a=b:=Ty.beq_iff (.arr 32 (.int .u8)) rfl a b
def okP (l:List Pr) (i:Nat):Bool:=mayP (l.getD i zPr) && (i == 0 || J6z (l.getD (i - 1) zPr).1 (l.getD i zPr).1)
def J9g (l:List Pr):Bool:=(List.range l.length).all (okP l) && decide (l.length≤30)
theorem Jxa (x0:List Pr) (x1:List Pr) (x2:Int) (x3:Int):J1a_1_step x0 x1 x2 x3 =
  (fork (decide (x3 < x2)) (need (0≤x3∧x3 < (List.length x1:Int)) (andThen (J5x (List.getD x1 (Int.toNat x3) zPr)) (fun u4=>fork (!u4) (some (.inr (.inl false))) (fork (decide ((0:Int) < x3)) (need (0≤(w64 (x3 - (1:Int)))∧(w64 (x3 - (1:Int))) < (List.length x0:Int)) (fork (!J6z (List.getD x0 (Int.toNat (w64 (x3 - (1:Int)))) zPr).1 (List.getD x1 (Int.toNat x3) zPr).1) (some (.inr (.inl false))) (some (.inl (w64 (x3+(1:Int))))))) (some (.inl (w64 (x3+(1:Int))))))))) (some (.inr (.inr x0))):Option ((Int)⊕((Bool)⊕(List Pr)))):=rfl
theorem Jf2 (l:List Pr) (hl:l.length≤1073741824):J1a l=some (J9g l):=by
 have main:J1a_1 l l (l.length:Int) 0=some (scan (fun i=>if okP l i then none else some (.inl false)) (.inr l) 0 l.length):=by
  unfold J1a_1
  have step:∀ i,i < l.length→J1a_1_step l l (l.length:Int) (i:Int)=if okP l i then some (.inl ((i+1:Nat):Int)) else some (.inr (.inl false)):=by
   intro i hi
   rw [Jxa]
   simp (disch:=omega) only [J6j,J6k,J6g,Int.toNat_natCast,Jxk,J6f]
   unfold okP
   by_cases hm:mayP (l.getD i zPr)
   ·rw [hm]
    rw [show (!true)=false from rfl,J6r,Bool.true_and]
    by_cases h0:i=0
    ·subst h0; rw [J6h (by omega)]; rfl
    ·rw [J6j (by omega),J6g (by omega),show Int.toNat ((i:Int) - 1)=i - 1 from by omega]
     have:(i == 0)=false:=by simp [h0]
     rw [this,Bool.false_or]
     by_cases hs:J6z (l.getD (i - 1) zPr).1 (l.getD i zPr).1
     ·rw [hs]; rfl
     ·rw [Bool.not_eq_true] at hs; rw [hs]; rfl
   ·rw [Bool.not_eq_true] at hm; rw [hm]; rfl
  refine J97 (step:=fun (s:Int)=>J1a_1_step l l (l.length:Int) s) (fun i=>(i:Int)) _ _ l.length (fun i hi h=>?_) (fun i r hi h=>?_) ?_ l.length 0 (by omega)
  ·by_cases hk:okP l i
   ·exact (step i hi).trans (if_pos hk)
   ·rw [if_neg hk] at h; cases h
  ·by_cases hk:okP l i
   ·rw [if_pos hk] at h; cases h
   ·rw [if_neg hk] at h; injection h with h; subst h
    exact (step i hi).trans (if_neg hk)
  ·rw [Jxa,J6h (by omega)]
 unfold J1a
 rw [main,J6f]
 unfold J9g
 by_cases hall:(List.range l.length).all (okP l)
 ·rw [Jbk _ _ (fun j _ h=>if_pos (List.all_eq_true.1 hall j (by simp; omega))),hall,Bool.true_and]
  dsimp only
  congr 1
  exact decide_eq_decide.2 (by omega)
 ·rw [Bool.not_eq_true] at hall
  have:∃ j,j < l.length∧okP l j=false:=by
   rw [List.all_eq_false] at hall
   obtain ⟨j,hj,hk⟩:=hall
   exact ⟨j,by simpa using hj,by simpa using hk⟩
  obtain ⟨j,hj⟩:=Nat.find_of this
  have hsc:scan (fun i=>if okP l i then none else some (.inl false)) (.inr l:Bool⊕List Pr) 0 l.length=.inl false:=by
   refine Jaj l.length 0 j (Nat.zero_le _) (by omega) (fun j' _ h=>if_pos ?_) (if_neg ?_)
   ·have:=hj.2 j' h
    cases hk:okP l j' with
    | true=>rfl
    | false=>exact absurd ⟨by omega,hk⟩ this
   ·rw [hj.1.2]; simp
  rw [hall,hsc]
  rfl
theorem Jbi (l:List Pr):J9g l=true↔J89 l∧(∀ p ∈ l,mayP p=true)∧l.length≤30:=by
 have e:∀ j,(l.map (·.1)).getD j []=(l.getD j zPr).1:=fun j=>by
  rw [List.getD_eq_getElem?_getD,List.getD_eq_getElem?_getD,List.getElem?_map]
  cases l[j]? <;> rfl
 unfold J9g
 rw [Bool.and_eq_true,decide_eq_true_eq]
 constructor
 ·rintro ⟨h1,h2⟩
  have key0:∀ i,i < l.length→okP l i=true:=fun i hi=>List.all_eq_true.1 h1 i (List.mem_range.2 hi)
  have hinc:incN (l.map fun p:Pr=>p.1)=true:=by
   refine List.all_eq_true.2 fun i hi=>?_
   have hi:=List.mem_range.1 hi
   rw [List.length_map] at hi
   have:=key0 (i+1) (by omega)
   unfold okP at this
   simp only [Bool.and_eq_true,Bool.or_eq_true,beq_iff_eq] at this
   have t:=this.2.resolve_left (by omega)
   rw [Nat.add_sub_cancel] at t
   rw [e,e]; exact t
  refine ⟨List.pairwise_map.1 (Joc _ hinc),fun p hp=>?_,h2⟩
  ·obtain ⟨i,hi,rfl⟩:=List.getElem_of_mem hp
   have:=key0 i hi
   unfold okP at this
   rw [Bool.and_eq_true,List.getD_eq_getElem?_getD,List.getElem?_eq_getElem hi] at this
   exact this.1
 ·rintro ⟨h1,h2,h3⟩
  refine ⟨List.all_eq_true.2 fun i hi=>?_,h3⟩
  have hi:=List.mem_range.1 hi
  unfold okP
  rw [Bool.and_eq_true,Bool.or_eq_true,beq_iff_eq]
  refine ⟨h2 _ (J7d hi),?_⟩
  by_cases c:i=0
  ·exact .inl c
  ·exact .inr (Jf3 h1 (by omega) hi)
theorem mayP_b {p:Pr} (h:mayP p=true):1≤p.1.length∧p.1.length≤16∧p.2.1.length≤24:=by
 unfold mayP at h
 simp only [Bool.and_eq_true,Bool.not_eq_true',decide_eq_true_eq,decide_eq_false_iff_not,← List.length_eq_zero_iff] at h
 omega
theorem Jfh {l:List Pr} (h:J9g l=true):KvOk l∧J89 l:=by
 obtain ⟨h1,h2,h3⟩:=(Jbi l).1 h
 exact ⟨⟨by omega,fun p hp=>by have:=mayP_b (h2 p hp); omega⟩,h1⟩
noncomputable def Jhi (p:Prf) (i:Nat):List UInt8×Bool:=upS (Jea (p.2.2.1.getD i zPr)) (p.2.1+(i:Int)) p.1 (p.2.2.2.1.getD i [])
noncomputable def Jb5 (root:List UInt8) (p:Prf) (i:Nat):Bool:=(Jhi p i).2 && hq (Jnn p.1.toNat (Jhi p i).1) root
noncomputable def J9z (root:List UInt8) (p:Prf):Bool:=
 decide (0≤p.1∧p.1≤30∧p.2.2.2.1.length=p.2.2.1.length) && (J9g p.2.2.1 && (decide (0≤p.2.1∧p.2.1≤p.1 - (p.2.2.1.length:Int)) && (if p.1=0 then hq root (J9s []) else (decide (0 < p.2.2.1.length) && (List.range p.2.2.1.length).all (Jb5 root p)))))
def Jle (p:Prf):Prop:=(∀ x ∈ p.2.2.2.1,x.length≤1000∧∀ h ∈ x,h.length=32)∧p.2.2.1.length≤1000000∧p.2.2.2.1.length≤1000000
theorem upS_32 (leaf:List UInt8) (i n:Int) (p:List (List UInt8)):(upS leaf i n p).1.length=32:=by
 unfold upS
 split
 ·exact Jlk _ _ _ (J86 _)
 ·simp
theorem Jw9 (n:Nat) (r:List UInt8) (hr:r.length=32):J4r (n:Int) r=some (Jnn n r):=by
 have hp:putS [(n:Int)]=oneS n:=by simp [putS]
 have h1:=J7y (n:Int)
 have hf:[oneS (n:Int),r].flatten=oneS (n:Int)++r:=by simp
 unfold J4r
 rw [put_eq _ (by simp),J6f,hp,J81 _ _ (by rw [hf,List.length_append]; omega) (by simp),hf]
 rfl
theorem Jw6 (x0:List Pr) (x1:Int) (x2:Int) (x3:List UInt8) (x4:Prf):J0v_1_step x0 x1 x2 x3 x4 =
  (fork (decide (x2 < x1)) (need (0≤x2∧x2 < (List.length x0:Int)) (andThen (J4u (List.getD x0 (Int.toNat x2) zPr)) (fun u16=>need (0≤x2∧x2 < (List.length x4.2.2.2.1:Int)) (andThen (J2f u16 (w64 (x4.2.1+x2)) x4.1 (List.getD x4.2.2.2.1 (Int.toNat x2) ([]:List (List UInt8)))) (fun u19=>fork (!u19.2) (some (.inr (.inl ()))) (andThen (J4r x4.1 u19.1) (fun u22=>fork (!(Ty.beq (.arr 32 (.int .u8)) u22 x3)) (some (.inr (.inl ()))) (some (.inl (w64 (x2+(1:Int)))))))))))) (some (.inr (.inr ()))):Option ((Int)⊕((Unit)⊕(Unit)))):=rfl
theorem K0t {ρ:Type} (f:Nat→Bool) (r r0:ρ) (n:Nat):scan (fun i=>if f i then none else some r) r0 0 n=if (List.range n).all f then r0 else r:=by
 by_cases h:(List.range n).all f=true
 ·rw [if_pos h]
  exact Jbk _ _ fun j _ hj=>if_pos (List.all_eq_true.1 h j (List.mem_range.2 (by omega)))
 ·rw [if_neg h]
  rw [Bool.not_eq_true,List.all_eq_false] at h
  obtain ⟨j,hj,hf⟩:=h
  obtain ⟨k,hk⟩:=Nat.find_of (p:=fun j=>j < n∧¬ f j=true) ⟨j,List.mem_range.1 hj,hf⟩
  refine Jaj n 0 k (Nat.zero_le _) (by omega) (fun j' _ h=>if_pos ?_) (if_neg hk.1.2)
  exact Classical.byContradiction fun q=>hk.2 j' h ⟨by omega,q⟩
theorem K3n {p:Prf} (h:Jle p) (i:Nat):(∀ x ∈ p.2.2.2.1.getD i [],x.length=32)∧(p.2.2.2.1.getD i []).length≤100000:=by
 by_cases c:i < p.2.2.2.1.length
 ·have:=h.1 _ (J7d (z:=[]) c)
  exact ⟨this.2,by omega⟩
 ·rw [List.getD_eq_getElem?_getD,List.getElem?_eq_none (by omega)]; simp
theorem Jep (root:List UInt8) (p:Prf) (h:Jle p):J0v root p=some (J9z root p):=by
 have hn:=h.2.1
 unfold J0v J9z
 by_cases c1:p.1 < 0
 ·rw [J6j c1,decide_eq_false (fun q=>absurd q.1 (by omega))]; rfl
 rw [J6h c1]
 by_cases c2:30 < p.1
 ·rw [J6j c2,decide_eq_false (fun q=>absurd q.2.1 (by omega))]; rfl
 rw [J6h c2]
 by_cases c3:p.2.2.2.1.length=p.2.2.1.length
 case neg=>rw [Jbv (by omega),decide_eq_false (fun q=>c3 q.2.2)]; rfl
 rw [J9v (by omega),Jf2 _ (by omega),J6f,decide_eq_true (p:=0≤p.1∧p.1≤30∧p.2.2.2.1.length=p.2.2.1.length) ⟨by omega,by omega,c3⟩,Bool.true_and]
 cases c4:J9g p.2.2.1 with
 | false=>rfl
 | true=>
  obtain ⟨hk,hr⟩:=Jfh c4
  have hl:=hk.1
  rw [Bool.not_true,J6r,Bool.true_and]
  by_cases c5:p.2.1 < 0
  ·rw [J6j c5,decide_eq_false (fun q=>absurd q.1 (by omega))]; rfl
  rw [J6h c5,J6k (by omega) (by omega)]
  by_cases c6:p.1 - (p.2.2.1.length:Int) < p.2.1
  ·rw [J6j c6,decide_eq_false (fun q=>absurd q.2 (by omega))]; rfl
  rw [J6h c6,decide_eq_true (p:=0≤p.2.1∧p.2.1≤p.1 - (p.2.2.1.length:Int)) ⟨by omega,by omega⟩,Bool.true_and]
  by_cases c7:p.1=0
  ·rw [J6j c7,if_pos c7,Jjr [] ⟨by simp,by simp⟩,J6f]
  rw [J6h c7,if_neg c7]
  by_cases c8:p.2.2.1.length=0
  ·rw [J6j (by omega),decide_eq_false (by omega)]; rfl
  rw [J6h (by omega),decide_eq_true (p:=0 < p.2.2.1.length) (by omega),Bool.true_and]
  have m:J0v_1 p.2.2.1 (p.2.2.1.length:Int) 0 root p=some (scan (fun i=>if Jb5 root p i then none else some (.inl ())) (.inr ()) 0 p.2.2.1.length):=by
   unfold J0v_1
   have step:∀ i,i < p.2.2.1.length→J0v_1_step p.2.2.1 (p.2.2.1.length:Int) (i:Int) root p=if Jb5 root p i then some (.inl ((i+1:Nat):Int)) else some (.inr (.inl ())):=by
    intro i hi
    obtain ⟨po1,po2⟩:=K3n h i
    have hlf:=hk.2 _ (J7d (z:=zPr) hi)
    have hlb:=Jol hlf
    have hnum:p.1=((p.1.toNat:Nat):Int):=by omega
    have hw:J4r p.1 (upS (Jea (p.2.2.1.getD i zPr)) (p.2.1+(i:Int)) p.1 (p.2.2.2.1.getD i [])).1=some (Jnn p.1.toNat (upS (Jea (p.2.2.1.getD i zPr)) (p.2.1+(i:Int)) p.1 (p.2.2.2.1.getD i [])).1):=by
     have:=Jw9 p.1.toNat _ (upS_32 (Jea (p.2.2.1.getD i zPr)) (p.2.1+(i:Int)) p.1 (p.2.2.2.1.getD i []))
     rw [← hnum] at this; exact this
    rw [Jw6,J6j (by omega),J6g (by omega),Int.toNat_natCast,Jql _ hlf,J6f,J6g (by omega),J6k (n:=p.2.1+(i:Int)) (by omega) (by omega),up_eq _ (by omega) _ _ (by omega) _ po1 po2,J6f,hw,J6f,J6k (by omega) (by omega)]
    unfold Jb5 Jhi
    cases (upS (Jea (p.2.2.1.getD i zPr)) (p.2.1+(i:Int)) p.1 (p.2.2.2.1.getD i [])).2 with
    | false=>rfl
    | true=>
     rw [Bool.not_true,J6r,Bool.true_and]
     unfold hq
     cases Ty.beq (.arr 32 (.int .u8)) (Jnn p.1.toNat (upS (Jea (p.2.2.1.getD i zPr)) (p.2.1+(i:Int)) p.1 (p.2.2.2.1.getD i [])).1) root <;> rfl
   refine J97 (step:=fun (s:Int)=>J0v_1_step p.2.2.1 (p.2.2.1.length:Int) s root p) (fun i=>(i:Int)) _ _ p.2.2.1.length (fun i hi h=>?_) (fun i r hi h=>?_) ?_ p.2.2.1.length 0 (by omega)
   ·by_cases hk:Jb5 root p i
    ·exact (step i hi).trans (if_pos hk)
    ·rw [if_neg hk] at h; cases h
   ·by_cases hk:Jb5 root p i
    ·rw [if_pos hk] at h; cases h
    ·rw [if_neg hk] at h; injection h with h; subst h
     exact (step i hi).trans (if_neg hk)
   ·rw [Jw6,J6h (by omega)]
  rw [m,J6f,K0t]
  cases (List.range p.2.2.1.length).all (Jb5 root p) <;> rfl
theorem Jtd {root:List UInt8} {p:Prf} (h:J9z root p=true):KvOk p.2.2.1∧J89 p.2.2.1:=by
 unfold J9z at h
 rw [Bool.and_eq_true,Bool.and_eq_true] at h
 exact Jfh h.2.1
theorem Jyz {root:List UInt8} {p:Prf} (h:J9z root p=true):0≤p.1∧p.1≤30∧0≤p.2.1∧p.2.1≤p.1 - (p.2.2.1.length:Int)∧(p.2.2.1.length=0↔p.1=0):=by
 unfold J9z at h
 simp only [Bool.and_eq_true,decide_eq_true_eq] at h
 obtain ⟨⟨h1,h2,_⟩,_,⟨h3,h4⟩,h5⟩:=h
 refine ⟨h1,h2,h3,h4,fun e=>?_,fun e=>by omega⟩
 apply Classical.byContradiction
 intro c
 rw [if_neg c,Bool.and_eq_true,decide_eq_true_eq] at h5
 omega
def inR (a b:List UInt8) (p:Pr):Bool:=!J6z p.1 a && J6z p.1 b
def J9y (l:List Pr) (a b:List UInt8):List Pr:=l.filter (inR a b)
theorem K03 {l:List Pr} {a b:Nat} {q:Pr}:q ∈ cutL l (a:Int) (b:Int)↔∃ i,a≤i∧i < b∧i < l.length∧l.getD i zPr=q:=by
 unfold cutL
 rw [Int.toNat_natCast,Int.toNat_natCast]
 constructor
 ·intro h
  obtain ⟨i,h1,h2,h3⟩:=Jgv h
  rw [List.length_take] at h2
  rw [List.getD_eq_getElem?_getD,List.getElem?_take,if_pos (by omega),← List.getD_eq_getElem?_getD] at h3
  exact ⟨i,h1,by omega,by omega,h3⟩
 ·rintro ⟨i,h1,h2,h3,rfl⟩
  have e:(l.take b).drop a=(l.drop a).take (b - a):=by rw [List.drop_take]
  have hm:((l.take b).drop a).getD (i - a) zPr=l.getD i zPr:=by
   rw [List.getD_eq_getElem?_getD,List.getD_eq_getElem?_getD,List.getElem?_drop,List.getElem?_take,if_pos (by omega)]
   congr 2; omega
  rw [← hm]
  exact J7d (by rw [List.length_drop,List.length_take]; omega)
theorem Jkp (l:List Pr) (hr:J89 l) (hl:l.length≤1000) (a b:List UInt8):J45 l a b=some (J9y l a b):=by
 have h1:=below_le l a
 have h2:=below_le l b
 have e:cutL l ((J6p l a:Nat):Int) ((max (J6p l a) (J6p l b):Nat):Int)=J9y l a b:=by
  refine Jin ?_ (hr.sublist List.filter_sublist) fun q=>?_
  ·unfold cutL
   exact (hr.sublist (List.take_sublist _ _)).sublist (List.drop_sublist _ _)
  ·rw [K03]
   unfold J9y inR
   rw [List.mem_filter,Bool.and_eq_true,Bool.not_eq_true']
   constructor
   ·rintro ⟨i,g1,g2,g3,rfl⟩
    refine ⟨J7d g3,?_,(J8l hr b g3).2 (by omega)⟩
    cases c:J6z (l.getD i zPr).1 a with
    | false=>rfl
    | true=>have:=(J8l hr a g3).1 c; omega
   ·rintro ⟨g1,g2,g3⟩
    obtain ⟨i,hi,rfl⟩:=List.getElem_of_mem g1
    have hg:l.getD i zPr=l[i]:=by rw [List.getD_eq_getElem?_getD,List.getElem?_eq_getElem hi]; rfl
    rw [← hg] at g2 g3
    have:=(J8l hr b hi).1 g3
    refine ⟨i,?_,by omega,hi,hg⟩
    apply Classical.byContradiction
    intro c
    rw [(J8l hr a hi).2 (by omega)] at g2; cases g2
 unfold J45
 rw [Jcs l hr hl,J6f,Jcs l hr hl,J6f,show max (J6p l a:Int) (J6p l b:Int)=((max (J6p l a) (J6p l b):Nat):Int) from by omega,J6g (by omega),e]
 unfold Jf
 have hle:(J9y l a b).length≤l.length:=List.length_filter_le _ _
 rw [J6g (by omega),J6f]
def Jlg (p:Prf) (a:List UInt8):Bool:=decide (p.2.1=0) || J6z (p.2.2.1.getD 0 zPr).1 a
def K6 (p:Prf) (m:List UInt8):Bool:=decide (p.2.1+(p.2.2.1.length:Int)=p.1) || !J6z (p.2.2.1.getD (p.2.2.1.length - 1) zPr).1 m
noncomputable def Jah (root a b:List UInt8) (p:Prf):List Pr×Bool:=
 if J9z root p then (if p.2.2.1.length=0 then ([],true) else if Jlg p a && K6 p (maxS a b) then (J9y p.2.2.1 a b,true) else ([],false)) else ([],false)
theorem Jeo (root a b:List UInt8) (p:Prf) (h:Jle p):J4q root a b p=some (Jah root a b p):=by
 unfold J4q Jah
 rw [Jep root p h,J6f]
 cases hs:J9z root p with
 | false=>rfl
 | true=>
  obtain ⟨hk,hr⟩:=Jtd hs
  have hl:=hk.1
  obtain ⟨n1,n2,n3,n4,n5⟩:=Jyz hs
  rw [Bool.not_true,J6r,if_pos rfl,Jkp _ hr (by omega),J6f]
  by_cases c:p.2.2.1.length=0
  ·rw [J6j (by omega),if_pos c]
  rw [J6h (by omega),if_neg c,J6k (n:=p.2.1+_) (by omega) (by omega),J6k (by omega) (by omega),J6g (by omega),J6g (by omega),show Int.toNat ((p.2.2.1.length:Int) - 1)=p.2.2.1.length - 1 from by omega,show Int.toNat (0:Int)=0 from rfl]
  unfold Jlg K6
  by_cases c1:p.2.1=0
  ·rw [J6j c1,decide_eq_true c1,Bool.true_or,Bool.true_and]
   by_cases c2:p.2.1+(p.2.2.1.length:Int)=p.1
   ·rw [J6j c2,decide_eq_true c2]; rfl
   ·rw [J6h c2,decide_eq_false c2,Bool.false_or]
    show fork (!(!J6z (p.2.2.1.getD (p.2.2.1.length - 1) zPr).1 (maxS a b))) _ _=_
    cases J6z (p.2.2.1.getD (p.2.2.1.length - 1) zPr).1 (maxS a b) <;> rfl
  ·rw [J6h c1,decide_eq_false c1,Bool.false_or]
   by_cases c2:p.2.1+(p.2.2.1.length:Int)=p.1
   ·rw [J6j c2,decide_eq_true c2,Bool.true_or,Bool.and_true]
    show fork (!J6z (p.2.2.1.getD 0 zPr).1 a) _ _=_
    cases J6z (p.2.2.1.getD 0 zPr).1 a <;> rfl
   ·rw [J6h c2,decide_eq_false c2,Bool.false_or,J6g (by omega)]
    show fork (!J6z (p.2.2.1.getD 0 zPr).1 a) _ (fork (!(!J6z (p.2.2.1.getD (p.2.2.1.length - 1) zPr).1 (maxS a b))) _ _)=_
    cases J6z (p.2.2.1.getD 0 zPr).1 a <;> cases J6z (p.2.2.1.getD (p.2.2.1.length - 1) zPr).1 (maxS a b) <;> rfl
theorem Jp6 {root a b:List UInt8} {p:Prf} (h:(Jah root a b p).2=true):J9z root p=true:=by
 unfold Jah at h
 cases hs:J9z root p with
 | true=>rfl
 | false=>rw [hs,if_neg (by simp)] at h; cases h
noncomputable def absS (root k:List UInt8) (p:Prf):Bool:=(Jah root k k p).2 && !isAt p.2.2.1 k
theorem Jk1 (root k:List UInt8) (p:Prf) (h:Jle p):J58 root k p=some (absS root k p):=by
 unfold J58 absS
 rw [Jeo root k k p h,J6f]
 cases hs:(Jah root k k p).2 with
 | false=>rfl
 | true=>
  obtain ⟨hk,hr⟩:=Jtd (Jp6 hs)
  have hl:=hk.1
  rw [Bool.not_true,J6r,Jg4 _ hr (by omega),J6f,Bool.true_and]
  cases isAt p.2.2.1 k <;> rfl
noncomputable def Jkh (root:List UInt8) (x:Pr) (p:Prf):Bool:=J9z root p && decide (p.2.2.1=[x])
theorem Jlj (root:List UInt8) (x:Pr) (p:Prf) (h:Jle p):J52 root x p=some (Jkh root x p):=by
 have:=h.2.1
 unfold J52 Jkh
 rw [Jep root p h,J6f]
 cases J9z root p with
 | false=>rfl
 | true=>rw [J7m,Jp2 _ _ (by omega),J6f,Bool.true_and]
theorem Jtc (l:List Pr) (h:KvOk l) (F T:Nat) (hT:T≤1000):Jle (J8c l F T):=by
 have hl:=h.1
 unfold J8c
 by_cases c:T≤F
 ·rw [if_pos c]; exact ⟨by simp,by simp,by simp⟩
 ·rw [if_neg c]
  obtain ⟨a,b⟩:=Jsp l hl F (T - F)
  refine ⟨fun x hx=>⟨by have:=b x hx; omega,?_⟩,by show ((l.drop F).take (T - F)).length≤_; rw [List.length_take,List.length_drop]; omega,by show (J9f l F (T - F)).length≤_; omega⟩
  obtain ⟨j,_,rfl⟩:=List.mem_map.1 hx
  unfold Jbg
  split
  ·exact Jhh _ _ _
  ·simp
theorem K4s (l:List Pr) (hl:l.length≤60) (i:Nat) (hi:i < l.length):upS (Jea (l.getD i zPr)) (i:Int) (l.length:Int) (Jbg (J73 l) (i:Int))=(J8u (J73 l),true):=by
 have hg:(J73 l).getD i []=Jea (l.getD i zPr):=by
  unfold J73
  rw [List.getD_eq_getElem?_getD,List.getD_eq_getElem?_getD,List.getElem?_map,List.getElem?_eq_getElem hi]; rfl
 have hp:=Jmk l.length (J73 l) i (by rw [J7j]; omega) (by rw [J7j]; omega) (by rw [J7j]; omega)
 have hs:=Ja7 l.length (J73 l) i (by rw [J7j]; omega)
 rw [J7j,hg] at hp
 rw [J7j] at hs
 have e:Jbg (J73 l) (i:Int)=J8a l.length (J73 l) i:=by
  unfold Jbg
  rw [J7j,if_pos (by omega),Int.toNat_natCast]
 unfold upS
 rw [e,if_pos ⟨(Jme _ _).2 (by omega),by rw [Int.toNat_natCast,Int.toNat_natCast]; exact hs⟩,Int.toNat_natCast,Int.toNat_natCast,hp]
theorem Jym {l:List Pr} (h:Jzo l):J9g l=true:=by
 rw [Jbi]
 refine ⟨h.1,fun p hp=>?_,by have:=h.2.1; omega⟩
 have:=Js8 _ (h.2.2.1 p hp)
 have h3:=h.2.2.2 p hp
 unfold mayP
 have hne:p.1≠[]:=fun e=>by rw [e] at this; simp at this
 simp only [Bool.and_eq_true,Bool.not_eq_true',decide_eq_true_eq,decide_eq_false_iff_not]
 exact ⟨hne,by omega,by omega⟩
theorem Jji {l m:List Pr} (h:J9g l=true) (hs:m.Sublist l):J9g m=true:=by
 obtain ⟨h1,h2,h3⟩:=(Jbi l).1 h
 exact (Jbi m).2 ⟨h1.sublist hs,fun p hp=>h2 p (hs.subset hp),Nat.le_trans hs.length_le h3⟩
theorem Jal (l:List Pr) {F T:Nat} (h:F < T):J8c l F T=((l.length:Int),(F:Int),(l.drop F).take (T - F),J9f l F (T - F),()):=by unfold J8c; rw [if_neg (by omega)]
theorem Jv1 (root:List UInt8) (l:List Pr) (h:J9g l=true) (F T:Nat) (hT:T≤l.length):J9z root (J8c l F T)=if l.length=0 then hq root (J9s []) else decide (F < T) && hq (J9s l) root:=by
 obtain ⟨hk,hr⟩:=Jfh h
 have h30:=((Jbi l).1 h).2.2
 by_cases c:F < T
 ·have e1:((l.drop F).take (T - F)).length=T - F:=by rw [List.length_take,List.length_drop]; omega
  obtain ⟨e2,e3⟩:=Jsp l hk.1 F (T - F)
  have hat:∀ i,i < T - F→Jb5 root (J8c l F T) i=hq (J9s l) root:=fun i hi=>by
   have g1:((l.drop F).take (T - F)).getD i zPr=l.getD (F+i) zPr:=by
    rw [List.getD_eq_getElem?_getD,List.getD_eq_getElem?_getD,List.getElem?_take,if_pos hi,List.getElem?_drop]
   have g2:(J9f l F (T - F)).getD i []=Jbg (J73 l) ((F+i:Nat):Int):=by
    unfold J9f
    rw [List.getD_eq_getElem?_getD,List.getElem?_map,List.getElem?_range hi]; rfl
   have hu:=K4s l hk.1 (F+i) (by omega)
   unfold Jb5 Jhi
   rw [Jal l c]
   dsimp only
   rw [g1,g2,show (F:Int)+(i:Int)=((F+i:Nat):Int) from by omega,hu,Int.toNat_natCast]
   rfl
  rw [if_neg (by omega),decide_eq_true c,Bool.true_and]
  have hall:(List.range (T - F)).all (Jb5 root (J8c l F T))=hq (J9s l) root:=by
   cases hv:hq (J9s l) root with
   | true=>exact List.all_eq_true.2 fun i hi=>by rw [hat i (List.mem_range.1 hi),hv]
   | false=>exact List.all_eq_false.2 ⟨0,List.mem_range.2 (by omega),by rw [hat 0 (by omega),hv]; simp⟩
  unfold J9z
  rw [Jal l c] at hall ⊢
  dsimp only at hall ⊢
  rw [e1,e2,hall,Jji h ((List.take_sublist _ _).trans (List.drop_sublist _ _)),decide_eq_true (p:=0≤(l.length:Int)∧(l.length:Int)≤30∧T - F=T - F) ⟨by omega,by omega,rfl⟩,decide_eq_true (p:=0≤(F:Int)∧(F:Int)≤(l.length:Int) - ((T - F:Nat):Int)) ⟨by omega,by omega⟩,if_neg (by omega),decide_eq_true (p:=0 < T - F) (by omega)]
  rfl
 ·have es:J8c l F T=((l.length:Int),0,[],[],()):=by unfold J8c; rw [if_pos (by omega)]
  have hn:J9g ([]:List Pr)=true:=rfl
  rw [decide_eq_false c,Bool.false_and]
  unfold J9z
  rw [es]
  dsimp only
  rw [hn,decide_eq_true (p:=0≤(l.length:Int)∧(l.length:Int)≤30∧([]:List (List (List UInt8))).length=([]:List Pr).length) ⟨by omega,by omega,rfl⟩,decide_eq_true (p:=0≤(0:Int)∧(0:Int)≤(l.length:Int) - (([]:List Pr).length:Int)) ⟨by omega,by simp⟩,Bool.true_and,Bool.true_and,Bool.true_and]
  by_cases c0:l.length=0
  ·rw [if_pos c0,if_pos (by omega)]
  ·rw [if_neg c0,if_neg (by omega)]; rfl
theorem Jl4 (l:List Pr) (h:J9g l=true) (F T:Nat) (hT:T≤l.length):J9z (J9s l) (J8c l F T)=(decide (l.length=0) || decide (F < T)):=by
 rw [Jv1 _ l h F T hT]
 by_cases c:l.length=0
 ·have:l=[]:=List.length_eq_zero_iff.1 c
  subst this
  rw [if_pos c,decide_eq_true c]
  exact (K1o _ _).2 rfl
 ·rw [if_neg c,decide_eq_false c,Bool.false_or,(K1o (J9s l) (J9s l)).2 rfl,Bool.and_true]
theorem Jdl (l:List Pr) (hr:J89 l) (a b:List UInt8) (F T:Nat) (hFT:F < T) (hT:T≤l.length) (h1:F=0∨F < J6p l a) (h2:T=l.length∨J6p l (maxS a b) < T):J9y ((l.drop F).take (T - F)) a b=J9y l a b:=by
 have hm:J6z b a=true∨J6p l b≤J6p l (maxS a b):=by
  unfold maxS
  cases c:J6z a b with
  | true=>exact .inr (Nat.le_refl _)
  | false=>
   rcases Jfm a b c with e | e
   ·exact .inr (by rw [e]; exact Nat.le_refl _)
   ·exact .inl e
 refine Jin (((hr.sublist (List.drop_sublist _ _)).sublist (List.take_sublist _ _)).sublist List.filter_sublist) (hr.sublist List.filter_sublist) fun q=>?_
 unfold J9y
 rw [List.mem_filter,List.mem_filter]
 refine ⟨fun h=>⟨List.mem_of_mem_drop (List.mem_of_mem_take h.1),h.2⟩,fun h=>⟨?_,h.2⟩⟩
 obtain ⟨g1,g2⟩:=h
 unfold inR at g2
 rw [Bool.and_eq_true,Bool.not_eq_true'] at g2
 obtain ⟨i,hi,rfl⟩:=List.getElem_of_mem g1
 have hg:l.getD i zPr=l[i]:=by rw [List.getD_eq_getElem?_getD,List.getElem?_eq_getElem hi]; rfl
 rw [← hg] at g2 ⊢
 have q1:=(J8l hr b hi).1 g2.2
 have q2:J6p l a≤i:=by
  apply Classical.byContradiction
  intro c
  rw [(J8l hr a hi).2 (by omega)] at g2; cases g2.1
 have q3:i < T:=by
  rcases hm with e | e
  ·have:=J7z _ _ _ g2.2 e
   rw [g2.1] at this; cases this
  ·omega
 have hm2:((l.drop F).take (T - F)).getD (i - F) zPr=l.getD i zPr:=by
  rw [List.getD_eq_getElem?_getD,List.getD_eq_getElem?_getD,List.getElem?_take,if_pos (by omega),List.getElem?_drop]
  congr 2; omega
 rw [← hm2]
 exact J7d (by rw [List.length_take,List.length_drop]; omega)
theorem K7 (l:List Pr) {F T:Nat} (hFT:F < T) (hT:T≤l.length):((l.drop F).take (T - F)).length=T - F∧((l.drop F).take (T - F)).getD 0 zPr=l.getD F zPr∧((l.drop F).take (T - F)).getD (T - F - 1) zPr=l.getD (T - 1) zPr:=by
 refine ⟨by rw [List.length_take,List.length_drop]; omega,?_,?_⟩
 ·rw [List.getD_eq_getElem?_getD,List.getD_eq_getElem?_getD,List.getElem?_take,if_pos (by omega),List.getElem?_drop]; rfl
 ·rw [List.getD_eq_getElem?_getD,List.getD_eq_getElem?_getD,List.getElem?_take,if_pos (by omega),List.getElem?_drop]
  congr 2; omega
theorem Jqx (l:List Pr) (h:J9g l=true) (a b:List UInt8) (F T:Nat) (hT:T≤l.length) :
  Jah (J9s l) a b (J8c l F T)=if l.length=0∨(F < T∧(F=0∨F < J6p l a)∧(T=l.length∨J6p l (maxS a b) < T)) then (J9y l a b,true) else ([],false):=by
 obtain ⟨hk,hr⟩:=Jfh h
 unfold Jah
 rw [Jl4 l h F T hT]
 by_cases c0:l.length=0
 ·have e0:l=[]:=List.length_eq_zero_iff.1 c0
  have es:J8c l F T=((l.length:Int),0,[],[],()):=by unfold J8c; rw [if_pos (by omega)]
  rw [decide_eq_true c0,Bool.true_or,if_pos rfl,es,if_pos (by rfl),if_pos (.inl c0),e0]; rfl
 rw [decide_eq_false c0,Bool.false_or]
 by_cases c:F < T
 ·obtain ⟨e1,e2,e3⟩:=K7 l c hT
  rw [decide_eq_true c,if_pos rfl]
  have hb:Jlg (J8c l F T) a=decide (F=0∨F < J6p l a):=by
   unfold Jlg
   rw [Jal l c]
   dsimp only
   rw [e2,Bool.eq_iff_iff,Bool.or_eq_true,decide_eq_true_eq,decide_eq_true_eq,J8l hr a (by omega)]
   omega
  have he:K6 (J8c l F T) (maxS a b)=decide (T=l.length∨J6p l (maxS a b) < T):=by
   unfold K6
   rw [Jal l c]
   dsimp only
   rw [e1,e3,Bool.eq_iff_iff,Bool.or_eq_true,decide_eq_true_eq,decide_eq_true_eq,Bool.not_eq_true',← Bool.not_eq_true,J8l hr _ (by omega)]
   omega
  rw [hb,he,Jal l c]
  dsimp only
  rw [e1,if_neg (by omega)]
  by_cases q:(F=0∨F < J6p l a)∧(T=l.length∨J6p l (maxS a b) < T)
  ·have hP:l.length=0∨(F < T∧(F=0∨F < J6p l a)∧(T=l.length∨J6p l (maxS a b) < T)):=.inr ⟨c,q⟩
   rw [decide_eq_true q.1,decide_eq_true q.2,Bool.true_and,if_pos rfl,if_pos hP,Jdl l hr a b F T c hT q.1 q.2]
  ·have hP:¬ (l.length=0∨(F < T∧(F=0∨F < J6p l a)∧(T=l.length∨J6p l (maxS a b) < T))):=fun e=>e.elim c0 (fun e=>q e.2)
   have hQ:¬ (decide (F=0∨F < J6p l a) && decide (T=l.length∨J6p l (maxS a b) < T))=true:=by
    rw [Bool.and_eq_true,decide_eq_true_eq,decide_eq_true_eq]; exact q
   rw [if_neg hP,if_neg hQ]
 ·have hP:¬ (l.length=0∨(F < T∧(F=0∨F < J6p l a)∧(T=l.length∨J6p l (maxS a b) < T))):=fun e=>e.elim c0 (fun e=>c e.1)
  rw [decide_eq_false c,if_neg (by simp),if_neg hP]
theorem Jgs (l:List Pr) (hrt:J9g l=true) (a b:List UInt8):Jah (J9s l) a b (J8c l (J6p l a - 1) (min (J6p l (maxS a b)+1) l.length))=(J9y l a b,true):=by
 have h1:=below_le l a
 have h2:=below_le l (maxS a b)
 have h3:J6z (maxS a b) a=false:=by
  unfold maxS
  cases c:J6z a b with
  | true=>
   show J6z b a=false
   cases q:J6z b a with
   | false=>rfl
   | true=>have:=J7z _ _ _ c q; rw [J9t] at this; cases this
  | false=>exact J9t a
 have h4:=Jtt l (maxS a b) a h3
 rw [Jqx l hrt _ _ _ _ (by omega),if_pos]
 by_cases c:l.length=0
 ·exact .inl c
 ·exact .inr ⟨by omega,by omega,by omega⟩
theorem Jyx (l:List Pr) {k:Nat} (hk:k < l.length):J8c l k (k+1)=((l.length:Int),(k:Int),[l.getD k zPr],[Jbg (J73 l) (k:Int)],()):=by
 unfold J8c
 rw [if_neg (by omega),show k+1 - k=0+1 from by omega,Jdt l (by omega),Jj9]
 rfl
abbrev Rsp:=Int×Int×List Pr×Prf×Unit
abbrev Qry:=Int×List UInt8×List UInt8×Int×Int×Unit
def admR (r:Rsp):Bool:=decide (1≤r.2.1) && (decide (r.2.1≤16) && J9g r.2.2.1)
theorem Jhs (r:Rsp) (h:r.2.2.1.length≤1073741824):J4b r=some (admR r):=by
 unfold J4b admR
 rw [Jf2 _ h]
 cases decide (1≤r.2.1) <;> cases decide (r.2.1≤16) <;> rfl
noncomputable def admS (q:Qry) (root:List UInt8) (r:Rsp):Int:=
 if admR r then
  if q.1=2 then (if (Jah root q.2.1 q.2.2.1 r.2.2.2.1).2 && decide ((Jah root q.2.1 q.2.2.1 r.2.2.2.1).1=r.2.2.1) then 0 else 2)
  else if r.2.2.1.length=0 then (if absS root q.2.1 r.2.2.2.1 then 0 else 2)
  else if r.2.2.1.length=1 then (if decide ((r.2.2.1.getD 0 zPr).1=q.2.1) && Jkh root (r.2.2.1.getD 0 zPr) r.2.2.2.1 then 0 else 2)
  else 2
 else 1
theorem Jut {root a b:List UInt8} {p:Prf} (h:Jle p):(Jah root a b p).1.length≤1000000:=by
 have:=h.2.1
 unfold Jah
 split
 ·split
  ·simp
  ·split
   ·exact Nat.le_trans (List.length_filter_le _ _) this
   ·simp
 ·simp
theorem Jpx (q:Qry) (root:List UInt8) (r:Rsp) (h:Jle r.2.2.2.1) (hl:r.2.2.1.length≤1073741824):J51 q root r=some (admS q root r):=by
 unfold J51 admS
 rw [Jhs r hl,J6f]
 cases admR r with
 | false=>rfl
 | true=>
  rw [Bool.not_true,J6r,if_pos rfl]
  by_cases c:q.1=2
  ·have hrl:=Jut (root:=root) (a:=q.2.1) (b:=q.2.2.1) h
   rw [J6j c,if_pos c,Jeo _ _ _ _ h,J6f]
   cases (Jah root q.2.1 q.2.2.1 r.2.2.2.1).2 with
   | false=>rfl
   | true=>
    rw [Bool.not_true,J6r,Jp2 _ _ (by omega),J6f,Bool.true_and]
    cases decide ((Jah root q.2.1 q.2.2.1 r.2.2.2.1).1=r.2.2.1) <;> rfl
  ·rw [J6h c,if_neg c]
   by_cases c0:r.2.2.1.length=0
   ·rw [J6j (by omega),if_pos c0,Jk1 _ _ _ h,J6f]
    cases absS root q.2.1 r.2.2.2.1 <;> rfl
   ·rw [J6h (by omega),if_neg c0]
    by_cases c1:r.2.2.1.length=1
    ·rw [J6j (by omega),if_pos c1,J6g (by omega)]
     show fork (decide ((r.2.2.1.getD 0 zPr).1=q.2.1)) (andThen (J52 root (r.2.2.1.getD 0 zPr) r.2.2.2.1) _) _=_
     rw [Jlj _ _ _ h,J6f]
     cases decide ((r.2.2.1.getD 0 zPr).1=q.2.1) with
     | false=>rfl
     | true=>
      rw [J7m,Bool.true_and]
      cases Jkh root (r.2.2.1.getD 0 zPr) r.2.2.2.1 <;> rfl
    ·rw [J6h (by omega),if_neg c1]
def endQ (q:Qry):List UInt8:=if q.1=1 then q.2.1 else q.2.2.1
noncomputable def ansS (id:Int) (q:Qry) (h:Int) (l:List Pr):Rsp:=
 if q.1=1∧isAt l q.2.1=true then (id,h,[l.getD (J6p l q.2.1) zPr],J8c l (J6p l q.2.1) (J6p l q.2.1+1),())
 else (id,h,J9y l q.2.1 (endQ q),J8c l (J6p l q.2.1 - 1) (min (J6p l (maxS q.2.1 (endQ q))+1) l.length),())
def l1:List Pr:=[([97],[49],())]
def q1:Qry:=(1,[97],[],0,1,())
theorem Jjd (l:List Pr) (k:List UInt8):J9y l k k=[]:=by
 unfold J9y
 rw [List.filter_eq_nil_iff]
 intro p _
 unfold inR
 cases J6z p.1 k <;> simp
def Jb1 (l:List Int):Prop:=l.Pairwise (·≤·)
theorem Jij (x:Int):∀ l:List Int,(insI x l).Perm (x::l)
 | []=>List.Perm.refl _
 | y::r=>by
  unfold insI
  split
  ·exact List.Perm.refl _
  ·exact ((Jij x r).cons y).trans (List.Perm.swap x y r)
theorem Jik (x:Int):∀ {l:List Int},Jb1 l→Jb1 (insI x l)
 | [],_=>List.pairwise_singleton _ _
 | y::r,h=>by
  unfold insI
  obtain ⟨h1,h2⟩:=List.pairwise_cons.1 h
  split
  ·rename_i hxy
   exact List.pairwise_cons.2 ⟨fun z hz=>by rcases List.mem_cons.1 hz with rfl | hz; exact hxy; have:=h1 z hz; omega,h⟩
  ·rename_i hxy
   refine List.pairwise_cons.2 ⟨fun z hz=>?_,Jik x h2⟩
   rcases List.mem_cons.1 ((Jij x r).mem_iff.1 hz) with rfl | hz
   ·omega
   ·exact h1 z hz
theorem Jd5:∀ l:List Int,(srtI l).Perm l
 | []=>List.Perm.refl _
 | x::r=>(Jij x _).trans ((Jd5 r).cons x)
theorem Jan:∀ l:List Int,Jb1 (srtI l)
 | []=>List.Pairwise.nil
 | x::r=>Jik x (Jan r)
theorem Jef {a b:List Int} (ha:Jb1 a) (hb:Jb1 b) (h:a.Perm b):a=b:=
 List.Perm.eq_of_pairwise (fun x y _ _ h1 h2=>by omega) ha hb h
theorem K4n {a b:List Int} (h:a.Perm b):srtI a=srtI b:=Jef (Jan a) (Jan b) ((Jd5 a).trans (h.trans (Jd5 b).symm))
def insR:List Int→Int→List Int→List Int
 | [],x,B=>x::B
 | y::A,x,B=>if x < y then insR A x (y::B) else (y::A).reverse++x::B
theorem Js3:∀ (A:List Int) (x:Int) (B:List Int),(insR A x B).length=A.length+B.length+1
 | [],x,B=>by simp [insR]
 | y::A,x,B=>by
  unfold insR
  split
  ·rw [Js3]; simp only [List.length_cons]; omega
  ·simp; omega
theorem Jof:∀ (A:List Int) (x:Int) (B:List Int),(insR A x B).Perm (A.reverse++x::B)
 | [],x,B=>List.Perm.refl _
 | y::A,x,B=>by
  unfold insR
  split
  ·refine (Jof A x (y::B)).trans ?_
   rw [List.reverse_cons,List.append_assoc]
   exact (List.Perm.swap y x B).append_left _
  ·exact List.Perm.refl _
theorem Jil:∀ {A:List Int} {x:Int} {B:List Int},Jb1 (A.reverse++B)→(∀ b ∈ B,x≤b)→Jb1 (insR A x B)
 | [],x,B,h,hb=>List.pairwise_cons.2 ⟨hb,h⟩
 | y::A,x,B,h,hb=>by
  unfold insR
  split
  ·rename_i hxy
   refine Jil (by rw [List.reverse_cons,List.append_assoc] at h; exact h) fun b hb'=>?_
   rcases List.mem_cons.1 hb' with rfl | hb'
   ·omega
   ·exact hb b hb'
  ·rename_i hxy
   obtain ⟨h1,h2,h3⟩:=List.pairwise_append.1 h
   refine List.pairwise_append.2 ⟨h1,List.pairwise_cons.2 ⟨hb,h2⟩,fun a ha b hb'=>?_⟩
   rcases List.mem_cons.1 hb' with rfl | hb'
   ·have hay:a≤y:=by
     rw [List.reverse_cons] at h1 ha
     rcases List.mem_append.1 ha with ha | ha
     ·exact (List.pairwise_append.1 h1).2.2 a ha y (List.mem_singleton.2 rfl)
     ·rw [List.mem_singleton.1 ha]; exact Int.le_refl _
    omega
   ·exact h3 a ha b hb'
theorem K3f (a b:Int):J59 a b=some (decide (a < b)):=by
 unfold J59 J4j
 rw [J6f,show (!decide (a=a))=false from by simp,J6r]
theorem Jx4 (b i:Int) (C:List Int):∀ (A:List Int) (x:Int) (B:List Int),A.length+B.length+C.length≤1000→
  J3_1 0 b i (A.length:Int) (A.reverse++x::(B++C))=some (0,b,i,insR A x B++C)
 | [],x,B,hl=>by
  unfold J3_1
  refine J71 ?_
  show J3_1_step 0 b i 0 (x::(B++C))=_
  unfold J3_1_step
  rw [J6h (by omega)]
  rfl
 | y::A,x,B,hl=>by
  simp only [List.length_cons] at hl
  have hd:(y::A).reverse++x::(B++C)=A.reverse++y::x::(B++C):=by simp
  have hlen:(A.reverse++y::x::(B++C)).length=A.length+2+B.length+C.length:=by simp; omega
  have hn:(((y::A).length:Nat):Int)=(A.length:Int)+1:=by simp
  have w1:w64 ((A.length:Int)+1 - 1)=(A.length:Int):=by rw [J6k (by omega) (by omega)]; omega
  have g1:(A.reverse++y::x::(B++C)).getD (A.length+1) 0=x:=by
   rw [List.getD_eq_getElem?_getD,List.getElem?_append_right (by simp)]; simp
  have g2:(A.reverse++y::x::(B++C)).getD A.length 0=y:=by
   rw [List.getD_eq_getElem?_getD,List.getElem?_append_right (by simp)]; simp
  have tn:Int.toNat ((A.length:Int)+1)=A.length+1:=by omega
  have st:J3_1_step 0 b i ((A.length:Int)+1) (A.reverse++y::x::(B++C))=if x < y then some (.inl ((A.length:Int),A.reverse++x::y::(B++C))) else some (.inr (0,b,i,A.reverse++y::x::(B++C))):=by
   unfold J3_1_step
   rw [J6j (by omega),J6g (by rw [hlen]; omega),w1,J6g (by rw [hlen]; omega),tn,Int.toNat_natCast,g1,g2,K3f,J6f]
   by_cases c:x < y
   ·rw [J6j c,if_pos c,J6g (by rw [List.length_set,hlen]; omega)]
    congr 3
    rw [List.set_append_right _ _ (by simp),List.length_reverse,show A.length+1 - A.length=1 from by omega]
    rw [show (y::x::(B++C)).set 1 y=y::y::(B++C) from rfl,List.set_append_right _ _ (by simp),List.length_reverse,Nat.sub_self]
    rfl
   ·rw [J6h c,if_neg c]
  rw [hd,hn]
  unfold J3_1 insR
  by_cases c:x < y
  ·rw [if_pos c] at st ⊢
   rw [J79 (s':=((A.length:Int),A.reverse++x::((y::B)++C))) st]
   exact Jx4 b i C A x (y::B) (by simp only [List.length_cons]; omega)
  ·rw [if_neg c] at st ⊢
   rw [J71 st,hd.symm]
   simp
theorem Jsn (n:Nat) (hn:n≤500):∀ (k i:Nat) (d:List Int),d.length=n→i+k=n→1≤i→Jb1 (d.take i)→∃ r,J3_2 0 (n:Int) (i:Int) d=some r∧r.Perm d∧Jb1 r
 | 0,i,d,hd,hi,h1,hs=>by
  refine ⟨d,?_,List.Perm.refl _,by rw [List.take_of_length_le (by omega)] at hs; exact hs⟩
  unfold J3_2
  refine J71 ?_
  show J3_2_step 0 (n:Int) (i:Int) d=_
  unfold J3_2_step
  rw [J6h (by omega)]
 | k+1,i,d,hd,hi,h1,hs=>by
  have hlt:i < d.length:=by omega
  have hsplit:d=(d.take i).reverse.reverse++d[i]::([]++d.drop (i+1)):=by
   rw [List.reverse_reverse,List.nil_append,List.getElem_cons_drop,List.take_append_drop]
  have hlA:((d.take i).reverse.length:Int)=(i:Int):=by rw [List.length_reverse,List.length_take]; omega
  have hin:=Jx4 (n:Int) (i:Int) (d.drop (i+1)) (d.take i).reverse d[i] [] (by rw [List.length_reverse,List.length_take,List.length_drop,List.length_nil]; omega)
  rw [← hsplit,hlA] at hin
  have hp:=Jof (d.take i).reverse d[i] []
  have hs2:=Jil (A:=(d.take i).reverse) (x:=d[i]) (B:=[]) (by rw [List.reverse_reverse,List.append_nil]; exact hs) (by simp)
  have hlr:=Js3 (d.take i).reverse d[i] []
  rw [List.length_reverse,List.length_take,List.length_nil] at hlr
  have hpd:(insR (d.take i).reverse d[i] []++d.drop (i+1)).Perm d:=by
   refine (hp.append_right _).trans ?_
   rw [List.append_assoc]
   have:=hsplit
   simp only [List.nil_append] at this
   rw [List.cons_append,List.nil_append,← this]
  obtain ⟨r,e,p1,p2⟩:=Jsn n hn k (i+1) (insR (d.take i).reverse d[i] []++d.drop (i+1)) (by rw [hpd.length_eq]; exact hd) (by omega) (by omega) (by
   rw [List.take_append_of_le_length (by omega),List.take_of_length_le (by omega)]; exact hs2)
  refine ⟨r,?_,p1.trans hpd,p2⟩
  unfold J3_2 at e ⊢
  rw [J79 (s':=(0,(n:Int),((i+1:Nat):Int),insR (d.take i).reverse d[i] []++d.drop (i+1))) (by
   show J3_2_step 0 (n:Int) (i:Int) d=_
   unfold J3_2_step
   rw [J6j (by omega),hin,J6f]
   dsimp only
   rw [J6k (by omega) (by omega)]
   rfl)]
  exact e
set_option maxRecDepth 100000 in
theorem len_ok:∀ n:Nat,n≤12→∃ k,J67 (UInt64.ofNat (Int.toNat ((n:Int) % 18446744073709551616)))=some k:=by
 intro n hn
 have:n=0∨n=1∨n=2∨n=3∨n=4∨n=5∨n=6∨n=7∨n=8∨n=9∨n=10∨n=11∨n=12:=by omega
 rcases this with rfl | rfl | rfl | rfl | rfl | rfl | rfl | rfl | rfl | rfl | rfl | rfl | rfl <;> exact ⟨_,rfl⟩
set_option maxRecDepth 100000 in
theorem K4m (d:List Int) (hd:d.length≤12):J1y d=some (srtI d):=by
 obtain ⟨k,hk⟩:=len_ok d.length hd
 have main:J3 0 (d.length:Int) d=some (srtI d):=by
  unfold J3
  rw [show w64 ((0:Int)+1)=((1:Nat):Int) from rfl]
  by_cases c:d.length=0
  ·have:d=[]:=List.eq_nil_of_length_eq_zero c
   subst this
   unfold J3_2
   rw [J71 (r:=[]) rfl]; rfl
  ·obtain ⟨r,e,p1,p2⟩:=Jsn d.length (by omega) (d.length - 1) 1 d rfl (by omega) (Nat.le_refl 1) (by
    match d,c with
    | x::l,_=>exact List.pairwise_singleton _ _)
   rw [e,J6f,Jef p2 (Jan d) (p1.trans (Jd5 d).symm)]
 unfold J1y Jp Jp_1
 rw [hk,J6f,J71 (r:=srtI d) (by
  show Jp_1_step 0 (d.length:Int) k true true d=_
  unfold Jp_1_step
  rw [J6k (by omega) (by omega),J6j (by omega),main,J6f])]
 rfl
theorem Jyy {α:Type} (f:(List (Int×α))→Option (List Int)) (l:List (Int×α)) (hl:l.length≤12)
  (hf:f l=Jul (∀ ss:List Int,ss.Perm (l.map (·.1))→J1y ss=some (srtI (l.map (·.1)))) (need (List.length l≤1000) (some (srtI (l.map (·.1)))))):f l=some (srtI (l.map (·.1))):=by
 rw [hf,Jun (fun ss hs=>by rw [K4m ss (by rw [hs.length_eq,List.length_map]; exact hl),K4n hs]),J6g (by omega)]
abbrev Ent:=Qry×Int×Int×Unit
abbrev ib:Int→Int→Bool:=Ty.beq (.int .i64)
theorem Jat (a b:Int):ib a b=decide (a=b):=by
 rw [Bool.eq_iff_iff,decide_eq_true_eq]
 exact Ty.beq_iff (.int .i64) rfl a b
def regF (g:Nat→Ent):Nat→Nat→List (Int×Ent)
 | _,0=>[]
 | s,m+1=>((s:Int)+1,g s)::regF g (s+1) m
def idsF:Nat→Nat→List Int
 | _,0=>[]
 | s,m+1=>((s:Int)+1)::idsF (s+1) m
def updG (g:Nat→Ent) (j:Nat) (y:Ent):Nat→Ent:=fun k=>if k=j then y else g k
theorem J9i {g h:Nat→Ent}:∀ (m s:Nat),(∀ j,s≤j→j < s+m→g j=h j)→regF g s m=regF h s m
 | 0,s,_=>rfl
 | m+1,s,e=>by
  unfold regF
  rw [e s (Nat.le_refl _) (by omega),J9i m (s+1) fun j h1 h2=>e j (by omega) (by omega)]
theorem Jms (g:Nat→Ent):∀ (m s:Nat),(regF g s m).length=m
 | 0,s=>rfl
 | m+1,s=>by unfold regF; rw [List.length_cons,Jms]
theorem Jp8 (g:Nat→Ent):∀ (m s:Nat),(regF g s m).map (·.1)=idsF s m
 | 0,s=>rfl
 | m+1,s=>by unfold regF idsF; rw [List.map_cons,Jp8]
theorem Jg9 (g:Nat→Ent) (j:Nat):∀ (m s:Nat),s≤j→j < s+m→J6o ib ((j:Int)+1) (regF g s m)=some (g j)
 | 0,s,h1,h2=>by omega
 | m+1,s,h1,h2=>by
  unfold regF J6o
  rw [Jat]
  by_cases c:s=j
  ·subst c; rw [decide_eq_true rfl,cond_true]
  ·rw [decide_eq_false (by omega),cond_false]; exact Jg9 g j m (s+1) (by omega) (by omega)
theorem Jjf (g:Nat→Ent) (j:Nat) (y:Ent):∀ (m s:Nat),s≤j→j < s+m→J6w ib ((j:Int)+1) y (regF g s m)=regF (updG g j y) s m
 | 0,s,h1,h2=>by omega
 | m+1,s,h1,h2=>by
  unfold regF J6w
  rw [Jat]
  by_cases c:s=j
  ·subst c
   rw [decide_eq_true rfl,cond_true]
   rw [show updG g s y s=y from if_pos rfl]
   congr 1
   exact J9i m (s+1) fun j h1 h2=>(if_neg (by omega)).symm
  ·rw [decide_eq_false (by omega),cond_false,Jjf g j y m (s+1) (by omega) (by omega),show updG g j y s=g s from if_neg c]
theorem Jyc (g:Nat→Ent) (y:Ent):∀ (m s:Nat),J6w ib ((s:Int)+m+1) y (regF g s m)=regF (updG g (s+m) y) s (m+1)
 | 0,s=>by
  unfold regF J6w
  rw [show updG g (s+0) y s=y from if_pos rfl,show (s:Int)+((0:Nat):Int)+1=(s:Int)+1 from by omega]; rfl
 | m+1,s=>by
  unfold regF J6w
  rw [Jat,decide_eq_false (by omega),cond_false,show updG g (s+(m+1)) y s=g s from if_neg (by omega)]
  have:=Jyc g y m (s+1)
  rw [show ((s+1:Nat):Int)+(m:Int)+1=(s:Int)+((m+1:Nat):Int)+1 from by omega,show s+1+m=s+(m+1) from by omega] at this
  rw [this]
theorem Jey:∀ (m s:Nat),(idsF s m).length=m
 | 0,s=>rfl
 | m+1,s=>by unfold idsF; rw [List.length_cons,Jey]
theorem Js2:∀ {m s:Nat} {x:Int},x ∈ idsF s m→(s:Int)+1≤x
 | 0,s,x,h=>by cases h
 | m+1,s,x,h=>by
  unfold idsF at h
  rcases List.mem_cons.1 h with rfl | h
  ·omega
  ·have:=Js2 h; omega
theorem Jii:∀ (m s:Nat),Jb1 (idsF s m)
 | 0,s=>List.Pairwise.nil
 | m+1,s=>by
  unfold idsF
  exact List.pairwise_cons.2 ⟨fun x hx=>by have:=Js2 hx; omega,Jii m (s+1)⟩
theorem Jma:∀ (m s i:Nat),i < m→(idsF s m).getD i 0=(s:Int)+i+1
 | 0,s,i,h=>by omega
 | m+1,s,0,h=>by unfold idsF; rw [List.getD_cons_zero]; omega
 | m+1,s,i+1,h=>by
  unfold idsF; rw [List.getD_cons_succ,Jma m (s+1) i (by omega)]; omega
theorem Juv (g:Nat→Ent) (m:Nat) (hm:m≤12):J3n (regF g 0 m)=some (idsF 0 m):=by
 rw [Jyy J3n (regF g 0 m) (by rw [Jms]; exact hm) rfl,Jp8,Jef (Jan _) (Jii m 0) (Jd5 _)]
def J8i (p:Nat→Bool):Nat→List Int
 | 0=>[]
 | i+1=>J8i p i++(if p i then [(i:Int)+1] else [])
theorem Jfd (p:Nat→Bool):∀ i,(J8i p i).length≤i
 | 0=>Nat.le_refl _
 | i+1=>by unfold J8i; rw [List.length_append]; have:=Jfd p i; split <;> simp <;> omega
theorem Jp3 {p:Nat→Bool} {i:Nat} (h:p i=true):J8i p (i+1)=J8i p i++[(i:Int)+1]:=by show _++_=_; rw [if_pos h]
theorem Jl1 {p:Nat→Bool} {i:Nat} (h:p i=false):J8i p (i+1)=J8i p i:=by show _++_=_; rw [h,if_neg (by simp),List.append_nil]
def J7n (b:Int) (x:Ent):Bool:=decide (0 < x.2.2.1) && decide (x.2.2.1 < b)
def J8f (b:Int) (x:Ent):Ent:=if J7n b x then (x.1,x.2.1,0,()) else x
def J9q (b:Int) (x:Ent):Bool:=!decide (x.2.1=0) && (!decide (b < x.2.1) && !decide (0 < x.2.2.1))
def askG (b:Int) (x:Ent):Ent:=if J9q b x then (x.1,(if 0 < x.1.2.2.2.1 then b+x.1.2.2.2.1 else 0),b+x.1.2.2.2.2.1,()) else x
def part (f:Ent→Ent) (g:Nat→Ent) (i:Nat):Nat→Ent:=fun j=>if j < i then f (g j) else g j
theorem Jj7 (f:Ent→Ent) (g:Nat→Ent) (m i:Nat) (hi:i < m):regF (updG (part f g i) i (f (g i))) 0 m=regF (part f g (i+1)) 0 m:=
 J9i m 0 fun j _ _=>by
  unfold updG part
  by_cases c:j=i
  ·subst c; rw [if_pos rfl,if_pos (by omega)]
  ·rw [if_neg c]
   by_cases c2:j < i
   ·rw [if_pos c2,if_pos (by omega)]
   ·rw [if_neg c2,if_neg (by omega)]
theorem Jfb (f:Ent→Ent) (g:Nat→Ent) (m i:Nat) (h:f (g i)=g i):regF (part f g i) 0 m=regF (part f g (i+1)) 0 m:=
 J9i m 0 fun j _ _=>by
  unfold part
  by_cases c:j=i
  ·subst c; rw [if_neg (by omega),if_pos (by omega),h]
  ·by_cases c2:j < i
   ·rw [if_pos c2,if_pos (by omega)]
   ·rw [if_neg c2,if_neg (by omega)]
def Jhp (x:Ent):Prop:=0≤x.1.2.2.2.1∧x.1.2.2.2.1≤1000∧0≤x.1.2.2.2.2.1∧x.1.2.2.2.2.1≤1000
theorem Jv3 (m:Nat) (hm:m≤12) (g:Nat→Ent) (r:Int×Int×Int×Unit) (i:Nat) (hi:i < m) :
  Jc_1_step (m:Int) (i:Int) r (regF (part (J8f r.2.1) g i) 0 m) (J8i (fun j=>J7n r.2.1 (g j)) i) (idsF 0 m)=some (.inl (((i+1:Nat):Int),regF (part (J8f r.2.1) g (i+1)) 0 m,J8i (fun j=>J7n r.2.1 (g j)) (i+1))):=by
 have hg:(idsF 0 m).getD i 0=(i:Int)+1:=by rw [Jma m 0 i hi]; omega
 have hget:=Jg9 (part (J8f r.2.1) g i) i m 0 (Nat.zero_le _) (by omega)
 have hp:part (J8f r.2.1) g i i=g i:=if_neg (Nat.lt_irrefl i)
 have hl:=Jfd (fun j=>J7n r.2.1 (g j)) i
 rw [hp] at hget
 unfold Jc_1_step
 rw [J6j (by omega),J6g (by rw [Jey]; omega),Int.toNat_natCast,hg,hget,J6k (by omega) (by omega)]
 simp only [Option.getD_some]
 by_cases c1:0 < (g i).2.2.1
 ·rw [J6j c1]
  by_cases c2:(g i).2.2.1 < r.2.1
  ·have hL:J7n r.2.1 (g i)=true:=by unfold J7n; rw [decide_eq_true c1,decide_eq_true c2]; rfl
   rw [J6j c2,J6g (by rw [List.length_singleton]; omega),Jjf _ i _ m 0 (Nat.zero_le _) (by omega)]
   have:=Jj7 (J8f r.2.1) g m i hi
   rw [show J8f r.2.1 (g i)=((g i).1,(g i).2.1,0,()) from by unfold J8f; rw [if_pos hL]] at this
   rw [this,Jp3 (p:=fun j=>J7n r.2.1 (g j)) hL]
   rfl
  ·have hL:J7n r.2.1 (g i)=false:=by unfold J7n; rw [decide_eq_false c2]; simp
   rw [J6h c2,Jfb (J8f r.2.1) g m i (by unfold J8f; rw [hL,if_neg (by simp)]),Jl1 (p:=fun j=>J7n r.2.1 (g j)) hL]
   rfl
 ·have hL:J7n r.2.1 (g i)=false:=by unfold J7n; rw [decide_eq_false c1]; simp
  rw [J6h c1,Jfb (J8f r.2.1) g m i (by unfold J8f; rw [hL,if_neg (by simp)]),Jl1 (p:=fun j=>J7n r.2.1 (g j)) hL]
  rfl
theorem Jy2 (f:Ent→Ent) (g:Nat→Ent) (m:Nat):regF (part f g 0) 0 m=regF g 0 m:=J9i m 0 fun j _ _=>if_neg (by omega)
theorem K21 (f:Ent→Ent) (g:Nat→Ent) (m:Nat):regF (part f g m) 0 m=regF (fun j=>f (g j)) 0 m:=J9i m 0 fun j _ h=>if_pos (by omega)
theorem tick1 (m:Nat) (hm:m≤12) (g:Nat→Ent) (r:Int×Int×Int×Unit) :
  Jc_1 (m:Int) 0 r (regF g 0 m) [] (idsF 0 m)=some (r,regF (fun j=>J8f r.2.1 (g j)) 0 m,J8i (fun j=>J7n r.2.1 (g j)) m,idsF 0 m):=by
 have:=J6s (step:=fun (s:Int×(List (Int×Ent))×List Int)=>Jc_1_step (m:Int) s.1 r s.2.1 s.2.2 (idsF 0 m)) (fun i (_:Unit)=>((i:Int),regF (part (J8f r.2.1) g i) 0 m,J8i (fun j=>J7n r.2.1 (g j)) i)) (fun _ _=>()) (fun _=>(r,regF (part (J8f r.2.1) g m) 0 m,J8i (fun j=>J7n r.2.1 (g j)) m,idsF 0 m)) m (fun _ _=>True)
  (fun i w hi _=>⟨Jv3 m hm g r i hi,trivial⟩) (fun w _=>by
   show Jc_1_step (m:Int) (m:Int) r _ _ (idsF 0 m)=_
   unfold Jc_1_step
   rw [J6h (by omega)]) m 0 () (by omega) trivial
 rw [K21,Jy2] at this
 exact this
theorem Jv4 (m:Nat) (hm:m≤12) (g:Nat→Ent) (hg0:∀ j,Jhp (g j)) (r:Int×Int×Int×Unit) (hr:0≤r.2.1∧r.2.1≤100000) (x4:List Int) (i:Nat) (hi:i < m) :
  Jc_2_step (m:Int) (i:Int) r (regF (part (askG r.2.1) g i) 0 m) x4 (J8i (fun j=>J9q r.2.1 (g j)) i) (idsF 0 m)=some (.inl (((i+1:Nat):Int),regF (part (askG r.2.1) g (i+1)) 0 m,J8i (fun j=>J9q r.2.1 (g j)) (i+1))):=by
 have hg:(idsF 0 m).getD i 0=(i:Int)+1:=by rw [Jma m 0 i hi]; omega
 have hget:=Jg9 (part (askG r.2.1) g i) i m 0 (Nat.zero_le _) (by omega)
 have hp:part (askG r.2.1) g i i=g i:=if_neg (Nat.lt_irrefl i)
 have hl:=Jfd (fun j=>J9q r.2.1 (g j)) i
 obtain ⟨o1,o2,o3,o4⟩:=hg0 i
 rw [hp] at hget
 have no:J9q r.2.1 (g i)=false→some (.inl (w64 ((i:Int)+1),regF (part (askG r.2.1) g i) 0 m,J8i (fun j=>J9q r.2.1 (g j)) i))=(some (.inl (((i+1:Nat):Int),regF (part (askG r.2.1) g (i+1)) 0 m,J8i (fun j=>J9q r.2.1 (g j)) (i+1))):Option ((Int×List (Int×Ent)×List Int)⊕((Int×Int×Int×Unit)×List (Int×Ent)×List Int×List Int))):=fun hL=>by
  rw [Jfb (askG r.2.1) g m i (by unfold askG; rw [hL,if_neg (by simp)]),Jl1 (p:=fun j=>J9q r.2.1 (g j)) hL,J6k (by omega) (by omega)]
  rfl
 unfold Jc_2_step
 rw [J6j (by omega),J6g (by rw [Jey]; omega),Int.toNat_natCast,hg,hget]
 simp only [Option.getD_some]
 by_cases c1:(g i).2.1=0
 ·rw [J6j c1]; exact no (by unfold J9q; rw [decide_eq_true c1]; rfl)
 rw [J6h c1]
 by_cases c2:r.2.1 < (g i).2.1
 ·rw [J6j c2]; exact no (by unfold J9q; rw [decide_eq_true c2]; simp)
 rw [J6h c2]
 by_cases c3:0 < (g i).2.2.1
 ·rw [J6j c3]; exact no (by unfold J9q; rw [decide_eq_true c3]; simp)
 rw [J6h c3]
 have hL:J9q r.2.1 (g i)=true:=by unfold J9q; rw [decide_eq_false c1,decide_eq_false c2,decide_eq_false c3]; rfl
 have hs:=Jj7 (askG r.2.1) g m i hi
 rw [Jp3 (p:=fun j=>J9q r.2.1 (g j)) hL,← hs,show askG r.2.1 (g i)=((g i).1,(if 0 < (g i).1.2.2.2.1 then r.2.1+(g i).1.2.2.2.1 else 0),r.2.1+(g i).1.2.2.2.2.1,()) from by unfold askG; rw [if_pos hL]]
 by_cases c4:0 < (g i).1.2.2.2.1
 ·rw [J6j c4,J6g (by rw [List.length_singleton]; omega),Jjf _ i _ m 0 (Nat.zero_le _) (by omega),J6k (n:=(i:Int)+1) (by omega) (by omega),J6k (n:=r.2.1+(g i).1.2.2.2.1) (by omega) (by omega),J6k (n:=r.2.1+(g i).1.2.2.2.2.1) (by omega) (by omega),if_pos c4]
  rfl
 ·rw [J6h c4,J6g (by rw [List.length_singleton]; omega),Jjf _ i _ m 0 (Nat.zero_le _) (by omega),J6k (n:=(i:Int)+1) (by omega) (by omega),J6k (n:=r.2.1+(g i).1.2.2.2.2.1) (by omega) (by omega),if_neg c4]
  rfl
theorem tick2 (m:Nat) (hm:m≤12) (g:Nat→Ent) (hg0:∀ j,Jhp (g j)) (r:Int×Int×Int×Unit) (hr:0≤r.2.1∧r.2.1≤100000) (x4:List Int) :
  Jc_2 (m:Int) 0 r (regF g 0 m) x4 [] (idsF 0 m)=some (r,regF (fun j=>askG r.2.1 (g j)) 0 m,x4,J8i (fun j=>J9q r.2.1 (g j)) m):=by
 have:=J6s (step:=fun (s:Int×(List (Int×Ent))×List Int)=>Jc_2_step (m:Int) s.1 r s.2.1 x4 s.2.2 (idsF 0 m)) (fun i (_:Unit)=>((i:Int),regF (part (askG r.2.1) g i) 0 m,J8i (fun j=>J9q r.2.1 (g j)) i)) (fun _ _=>()) (fun _=>(r,regF (part (askG r.2.1) g m) 0 m,x4,J8i (fun j=>J9q r.2.1 (g j)) m)) m (fun _ _=>True)
  (fun i w hi _=>⟨Jv4 m hm g hg0 r hr x4 i hi,trivial⟩) (fun w _=>by
   show Jc_2_step (m:Int) (m:Int) r _ x4 _ (idsF 0 m)=_
   unfold Jc_2_step
   rw [J6h (by omega)]) m 0 () (by omega) trivial
 rw [K21,Jy2] at this
 exact this
theorem K01 {b:Int} {x:Ent} (h:Jhp x):Jhp (J8f b x):=by unfold J8f; split <;> exact h
theorem Jza (m:Nat) (hm:m≤12) (g:Nat→Ent) (hg0:∀ j,Jhp (g j)) (a b l:Int) (hb:0≤b∧b < 100000) (hl:0≤l∧l≤100000) :
  Jc (a,b,l,()) (regF g 0 m)=some ((a,b+1,l+(J8i (fun j=>J7n (b+1) (g j)) m).length,()),regF (fun j=>askG (b+1) (J8f (b+1) (g j))) 0 m,J8i (fun j=>J7n (b+1) (g j)) m,J8i (fun j=>J9q (b+1) (J8f (b+1) (g j))) m):=by
 have hpl:=Jfd (fun j=>J7n (b+1) (g j)) m
 unfold Jc
 rw [show J2k (regF g 0 m)=some () from rfl,J6f,Juv g m hm,J6f,Jey]
 dsimp only
 rw [J6k (n:=b+1) (by omega) (by omega),tick1 m hm g (a,b+1,l,()),J6f]
 dsimp only
 rw [Jey,J6k (by omega) (by omega),tick2 m hm (fun j=>J8f (b+1) (g j)) (fun j=>K01 (hg0 j)) (a,b+1,l+(J8i (fun j=>J7n (b+1) (g j)) m).length,()) ⟨by show 0≤b+1; omega,by show b+1≤100000; omega⟩]
 rfl
def RowG (l:List Pr):Prop:=J89 l∧l.length≤12∧KvOk l∧J9g l=true
theorem K49 {l:List Pr} (h:Jzo l):RowG l:=⟨h.1,h.2.1,row_kv h,Jym h⟩
theorem Jhu (id:Int) (q:Qry) (h:Int) (l:List Pr) (hrow:RowG l):Jle (ansS id q h l).2.2.2.1∧(ansS id q h l).2.2.1.length≤12∧J9g (ansS id q h l).2.2.1=true∧(ansS id q h l).1=id∧(ansS id q h l).2.1=h:=by
 have hk:=hrow.2.2.1
 have hl:=hrow.2.1
 have hrt:=hrow.2.2.2
 have hb:=below_le l q.2.1
 unfold ansS
 split
 ·rename_i c
  have:=(Je7 c.2).1
  have hs:[l.getD (J6p l q.2.1) zPr].Sublist l:=List.singleton_sublist.2 (J7d this)
  exact ⟨Jtc l hk _ _ (by omega),by simp,Jji hrt hs,rfl,rfl⟩
 ·exact ⟨Jtc l hk _ _ (by omega),Nat.le_trans (List.length_filter_le _ _) hl,Jji hrt List.filter_sublist,rfl,rfl⟩
theorem K2j {l:List Pr} (hrow:RowG l) {q:Qry} (hq:q.1=1∨q.1=2) (id h:Int) (h1:1≤h∧h≤16):admR (ansS id q h l)=true∧admS q (J9s l) (ansS id q h l)=0:=by
 have hk:=hrow.2.2.1
 have hrt:=hrow.2.2.2
 have hr:=hrow.1
 obtain ⟨o1,o2,o3,o4,o5⟩:=Jhu id q h l hrow
 have hR:admR (ansS id q h l)=true:=by
  unfold admR
  rw [o5,o3,decide_eq_true h1.1,decide_eq_true h1.2]; rfl
 refine ⟨hR,?_⟩
 unfold admS
 rw [hR,if_pos rfl]
 rcases hq with c | c
 ·rw [if_neg (by omega)]
  cases ha:isAt l q.2.1 with
  | true=>
   obtain ⟨q1,q2⟩:=Je7 ha
   have e:ansS id q h l=(id,h,[l.getD (J6p l q.2.1) zPr],J8c l (J6p l q.2.1) (J6p l q.2.1+1),()):=by unfold ansS; rw [if_pos ⟨c,ha⟩]
   rw [e]
   dsimp only
   rw [if_neg (by simp),if_pos (by rfl)]
   have he:Jkh (J9s l) (l.getD (J6p l q.2.1) zPr) (J8c l (J6p l q.2.1) (J6p l q.2.1+1))=true:=by
    unfold Jkh
    rw [Jl4 l hrt _ _ (by omega),decide_eq_true (show J6p l q.2.1 < J6p l q.2.1+1 by omega),Bool.or_true,Bool.true_and,decide_eq_true_eq,Jyx l q1]
   rw [show [l.getD (J6p l q.2.1) zPr].getD 0 zPr=l.getD (J6p l q.2.1) zPr from rfl,he,decide_eq_true q2]; rfl
  | false=>
   have e:ansS id q h l=(id,h,J9y l q.2.1 q.2.1,J8c l (J6p l q.2.1 - 1) (min (J6p l (maxS q.2.1 q.2.1)+1) l.length),()):=by
    unfold ansS endQ; rw [if_neg (fun h=>by rw [ha] at h; cases h.2),if_pos c]
   have hA:absS (J9s l) q.2.1 (J8c l (J6p l q.2.1 - 1) (min (J6p l (maxS q.2.1 q.2.1)+1) l.length))=true:=by
    unfold absS
    rw [Jgs l hrt,Bool.true_and,Bool.not_eq_true',← Bool.not_eq_true]
    intro hat
    obtain ⟨z1,z2⟩:=Je7 hat
    have hm:=J7d (z:=zPr) z1
    generalize (J8c l (J6p l q.2.1 - 1) (min (J6p l (maxS q.2.1 q.2.1)+1) l.length)).2.2.1.getD (J6p (J8c l (J6p l q.2.1 - 1) (min (J6p l (maxS q.2.1 q.2.1)+1) l.length)).2.2.1 q.2.1) zPr=u at hm z2
    have hm2:u ∈ l:=by
     unfold J8c at hm
     split at hm
     ·cases hm
     ·exact List.mem_of_mem_drop (List.mem_of_mem_take hm)
    rw [(Js4 hr q.2.1).2 ⟨u,hm2,z2⟩] at ha; cases ha
   rw [e]
   dsimp only
   rw [Jjd,if_pos (by rfl),hA]; rfl
 ·rw [if_pos c]
  have e:ansS id q h l=(id,h,J9y l q.2.1 q.2.2.1,J8c l (J6p l q.2.1 - 1) (min (J6p l (maxS q.2.1 q.2.2.1)+1) l.length),()):=by
   unfold ansS endQ; rw [if_neg (by omega),if_neg (by omega)]
  rw [e]
  dsimp only
  rw [Jgs l hrt,decide_eq_true rfl]; rfl
theorem Jtq {l:List Pr} (hrow:RowG l) {q:Qry} (hq:q.1=1∨q.1=2) (id h:Int) (h1:1≤h∧h≤16):J4b (ansS id q h l)=some true∧J51 q (J9s l) (ansS id q h l)=some 0:=by
 obtain ⟨a,b,c,d,e⟩:=Jhu id q h l hrow
 obtain ⟨r,s⟩:=K2j hrow hq id h h1
 exact ⟨by rw [Jhs _ (by omega),r],by rw [Jpx _ _ _ a (by omega),s]⟩
theorem K2k {l:List Pr} (hrow:RowG l) {q:Qry} (hq:q.1=1∨q.1=2) (id h:Int):J5b id q h l=some (ansS id q h l):=by
 have hk:=hrow.2.2.1
 have hr:=hrow.1
 have hl:=hrow.2.1
 unfold J5b
 rcases hq with c | c
 ·rw [J6h (by omega),Kh l hk hr,J6f]
  cases ha:isAt l q.2.1 with
  | true=>
   rw [if_pos rfl]
   dsimp only
   rw [J7m,Jg4 l hr (by omega),J6f,ha,if_pos rfl]
   unfold ansS
   rw [if_pos ⟨c,ha⟩]
   dsimp only
   have:=(Je7 ha).2
   congr 3
   generalize l.getD (J6p l q.2.1) zPr=u at this ⊢
   rw [← this]
  | false=>
   rw [if_neg (by simp)]
   dsimp only
   rw [J6r,Jvg l hk hr,J6f,ha,if_neg (by simp)]
   unfold ansS endQ
   rw [if_neg (fun h=>by rw [ha] at h; cases h.2),if_pos c,Jjd,Jov]
 ·rw [J6j c,Jkp l hr (by omega),J6f,Jsx l hk hr,J6f]
  unfold ansS endQ
  rw [if_neg (by omega),if_neg (by omega)]
abbrev CalT:=Int×Int×List Pr×Unit
def zCal:CalT:=(0,0,[],())
def Jcl (c:CalT):Prop:=c.2.2.1.length≤1000
theorem Ji2 (x0:Int) (x1:Int) (x2:List CalT):J0j_1_step x0 x1 x2 =
  (fork (decide (x1 < x0)) (need (0≤x1∧x1 < (List.length x2:Int)) (andThen (Jf ((List.getD x2 (Int.toNat x1) zCal).2.2.1)) (fun u6=>some (.inl ((w64 (x1+(1:Int))),(List.set x2 (Int.toNat x1) ((List.getD x2 (Int.toNat x1) zCal).1,(List.getD x2 (Int.toNat x1) zCal).2.1,u6,()))))))) (some (.inr x2)):Option ((Int×List CalT)⊕List CalT)):=rfl
theorem Jt8 {α:Type} (l:List α) (i:Nat) (z:α):l.set i (l.getD i z)=l:=by
 by_cases h:i < l.length
 ·rw [List.getD_eq_getElem?_getD,List.getElem?_eq_getElem h]; exact List.set_getElem_self h
 ·rw [List.set_eq_of_length_le (by omega)]
theorem Jq1 (l:List CalT) (hl:l.length≤1000) (h:∀ c ∈ l,Jcl c):J0j l=some l:=by
 have m:J0j_1 (l.length:Int) 0 l=some l:=by
  unfold J0j_1
  refine J6s (step:=fun (s:Int×List CalT)=>J0j_1_step (l.length:Int) s.1 s.2) (fun i (_:Unit)=>((i:Int),l)) (fun _ _=>()) (fun _=>l) l.length (fun _ _=>True) (fun i w hi _=>⟨?_,trivial⟩) (fun w _=>?_) l.length 0 () (by omega) trivial
  ·show J0j_1_step (l.length:Int) (i:Int) l=_
   have hc:=h _ (J7d (z:=zCal) hi)
   unfold Jcl at hc
   rw [Ji2,J6j (by omega),J6g (by omega),Int.toNat_natCast]
   unfold Jf
   rw [J6g (by omega),J6f,J6k (by omega) (by omega)]
   rw [show ((l.getD i zCal).1,(l.getD i zCal).2.1,(l.getD i zCal).2.2.1,())=l.getD i zCal from rfl,Jt8]
   rfl
  ·show J0j_1_step (l.length:Int) (l.length:Int) l=_
   rw [Ji2,J6h (by omega)]
 unfold J0j J1q
 rw [J6g (by omega),J6f,m]
 rfl
theorem pushG (c:CalT) (l:List CalT) (hl:l.length < 8) (hc:Jcl c) (h:∀ c ∈ l,Jcl c):J3d [c] (l,())=some (1,(),l++[c]):=by
 unfold J3d J1l
 rw [J6f,Jq1 l (by omega) h,J6f]
 dsimp only
 rw [J6k (by omega) (by omega),show (([c].length:Nat):Int)=1 from rfl,show min (1:Int) (8 - (l.length:Int))=1 from by omega,J6g (by omega)]
 rw [show cutL [c] (0:Int) 1=[c] from rfl,Jq1 [c] (by simp) (by simpa using hc),J6f,J6g (by simp only [List.length_singleton]; omega)]
theorem roomG (l:List CalT) (hl:l.length≤8):J1l (l,())=some (8 - (l.length:Int)):=by
 unfold J1l
 dsimp only
 rw [J6k (by omega) (by omega)]
theorem popG (c:CalT) (l:List CalT) (hl:l.length≤1000):J1v (c::l,())=some (c,true,(l,())):=by
 unfold J1v
 dsimp only
 rw [J6h (by rw [List.length_cons]; omega),J6g (by rw [List.length_cons]; omega),J6g (by rw [List.length_cons]; omega)]
 unfold cutL
 rw [Int.toNat_natCast,List.take_length]
 rfl
theorem popG0:J1v (([]:List CalT),())=some (zCal,false,([],())):=rfl
abbrev zH:List UInt8:=List.replicate 32 (0:UInt8)
def secS (seed:List UInt8) (i v:Nat):List UInt8:=sha (115::(seed++[UInt8.ofNat i,UInt8.ofNat v]))
def pubS (s:List UInt8):List UInt8:=sha (112::s)
def keyS (ps:List (List UInt8)):List UInt8:=sha (107::ps.flatten)
def digS (m:List UInt8):List UInt8:=sha (109::m)
def bitN (d:List UInt8) (i:Nat):Nat:=((d.getD (i / 8) 0).toNat >>> (7 - i % 8)) % 2
theorem Jhw (d:List UInt8) (i:Nat):bitN d i≤1:=by unfold bitN; omega
abbrev One:=List (List UInt8)×List (List UInt8)×Unit
theorem Jt4 (seed:List UInt8) (hs:seed.length=32) (i v:Nat) (hi:i < 256) (hv:v < 256):J3s seed (i:Int) (v:Int)=some (secS seed i v):=by
 unfold J3s
 have hf:[seed,[UInt8.ofNat (Int.toNat ((i:Int) % 256)),UInt8.ofNat (Int.toNat ((v:Int) % 256))]].flatten=seed++[UInt8.ofNat i,UInt8.ofNat v]:=by
  rw [J9b,J9b]; simp
 rw [J81 _ _ (by rw [hf]; simp; omega) (by simp),hf]
 rfl
theorem Jst (s:List UInt8) (hs:s.length=32):J3r s=some (pubS s):=by
 unfold J3r
 have hf:[s].flatten=s:=by simp
 rw [J81 _ _ (by rw [hf]; omega) (by simp),hf]
 rfl
theorem Jc9 (seed:List UInt8) (i v:Nat):(secS seed i v).length=32:=J86 _
theorem Jmp (s:List UInt8):(pubS s).length=32:=J86 _
theorem Js6 (s:List (List UInt8)):(keyS s).length=32:=J86 _
theorem Jrz (m:List (List UInt8)) (hm:∀ x ∈ m,x.length=32):m.flatten.length=32 * m.length:=by
 induction m with
 | nil=>rfl
 | cons a m ih=>rw [List.flatten_cons,List.length_append,ih (fun x hx=>hm x (List.mem_cons_of_mem _ hx)),hm a List.mem_cons_self,List.length_cons]; omega
theorem Jo5 (l:List (List UInt8)) {i:Nat} (h:i < l.length):(l.take i).flatten++l.getD i zH=(l.take (i+1)).flatten:=by
 rw [List.take_add_one,List.flatten_append,List.getD_eq_getElem?_getD,List.getElem?_eq_getElem h]
 simp
theorem Jhb (l:List (List UInt8)) (h:∀ x ∈ l,x.length=32) (i:Nat):(l.getD i zH).length=32:=by
 rw [List.getD_eq_getElem?_getD]
 cases e:l[i]? with
 | none=>rfl
 | some x=>exact h x (List.mem_of_getElem? e)
theorem K1t (l:List (List UInt8)) (hl:l.length≤1000) (h:∀ x ∈ l,x.length=32):J2a l=some (keyS l):=by
 have hlen:∀ i,((l.take i).flatten).length≤32 * l.length:=fun i=>by
  rw [Jrz _ fun x hx=>h x (List.mem_of_mem_take hx),List.length_take]; omega
 have main:∀ z,J2a_1 l (l.length:Int) 0 z []=some (z,l.flatten):=by
  intro z
  unfold J2a_1
  have:=J6s (step:=fun (s:Int×List UInt8)=>J2a_1_step l (l.length:Int) s.1 z s.2) (fun i (_:Unit)=>((i:Int),(l.take i).flatten)) (fun _ _=>()) (fun _=>(z,l.flatten)) l.length (fun _ _=>True) (fun i w hi _=>⟨?_,trivial⟩) (fun w _=>?_) l.length 0 () (by omega) trivial
  ·exact this
  ·show J2a_1_step l (l.length:Int) (i:Int) z (l.take i).flatten=_
   unfold J2a_1_step
   have b:=hlen i
   have hm:(l.getD i (List.replicate 32 0)).length=32:=Jhb l h i
   rw [J6j (by omega),J6g (by omega),Int.toNat_natCast,J6g (by omega),J6k (by omega) (by omega),Jo5 l hi]
   rfl
  ·show J2a_1_step l (l.length:Int) (l.length:Int) z (l.take l.length).flatten=_
   unfold J2a_1_step
   rw [J6h (by omega),List.take_of_length_le (Nat.le_refl _)]
 unfold J2a
 have hf:[l.flatten].flatten=l.flatten:=by simp
 have:=Jrz l h
 rw [main,J6f]
 simp only
 rw [J81 _ _ (by rw [hf]; omega) (by simp),hf]
 rfl
theorem K1f (d:List UInt8) (i:Nat) (hi:i < 256):J5u d (i:Int)=some ((bitN d i:Nat):Int):=by
 unfold J5u
 have e1:Int.tdiv (i:Int) 8=((i / 8:Nat):Int):=by rw [Int.tdiv_eq_ediv_of_nonneg (by omega)]; omega
 have e2:Int.tmod (i:Int) 8=((i % 8:Nat):Int):=by rw [Int.tmod_eq_emod_of_nonneg (by omega)]; omega
 rw [e1,e2,J6k (by omega) (by omega),J6k (by omega) (by omega),J6g (by omega),J6g (by omega),Int.toNat_natCast,show Int.toNat (7 - ((i % 8:Nat):Int))=7 - i % 8 from by omega]
 generalize hx:d.getD (i / 8) 0=x
 have hlt:=x.toNat_lt
 have hs:x.toNat >>> (7 - i % 8)≤x.toNat:=by rw [Nat.shiftRight_eq_div_pow]; exact Nat.div_le_self _ _
 rw [UInt8.toNat_ofNat',Nat.mod_eq_of_lt (by omega)]
 have hb:=Jlf (x.toNat >>> (7 - i % 8)) 1 (by omega) (by omega)
 rw [show ((1:Nat):Int)=1 from rfl] at hb
 rw [hb,show (1:Nat)=2 ^ 1 - 1 from rfl,Nat.and_two_pow_sub_one_eq_mod]
 unfold bitN
 rw [hx]
def Juo (seed:List UInt8) (i:Nat):List (List UInt8):=[pubS (secS seed i 0),pubS (secS seed i 1)]
def J8h (seed:List UInt8) (n:Nat):List (List UInt8):=(List.range n).flatMap (Juo seed)
theorem Jfc (seed:List UInt8) (n:Nat):(∀ x ∈ J8h seed n,x.length=32)∧(J8h seed n).length=2 * n:=by
 unfold J8h
 refine ⟨fun x hx=>?_,?_⟩
 ·obtain ⟨i,_,hi⟩:=List.mem_flatMap.1 hx
  simp only [Juo,List.mem_cons,List.not_mem_nil,or_false] at hi
  rcases hi with rfl | rfl <;> exact Jmp _
 ·induction n with
  | zero=>rfl
  | succ n ih=>rw [List.range_succ,List.flatMap_append,List.length_append,ih]; simp [Juo]; omega
theorem Jie {α β:Type} {f g:α→List β}:∀ {l:List α},(∀ a ∈ l,f a=g a)→l.flatMap f=l.flatMap g
 | [],_=>rfl
 | a::l,h=>by rw [List.flatMap_cons,List.flatMap_cons,h a List.mem_cons_self,Jie fun b hb=>h b (List.mem_cons_of_mem _ hb)]
theorem Jeu {α:Type} (f:Nat→List α) (n:Nat):(List.range (n+1)).flatMap f=(List.range n).flatMap f++f n:=by
 rw [List.range_succ,List.flatMap_append]; simp
def KeyS (seed:List UInt8):List UInt8:=keyS (J8h seed 32)
theorem Key_eq (seed:List UInt8) (hs:seed.length=32):J2p seed=some (KeyS seed):=by
 have main:∀ z,J2p_1 0 seed z []=some (z,J8h seed 32):=by
  intro z
  unfold J2p_1
  have:=J6s (step:=fun (s:Int×List (List UInt8))=>J2p_1_step s.1 seed z s.2) (fun i (_:Unit)=>((i:Int),J8h seed i)) (fun _ _=>()) (fun _=>(z,J8h seed 32)) 32 (fun _ _=>True) (fun i w hi _=>⟨?_,trivial⟩) (fun w _=>?_) 32 0 () (by omega) trivial
  ·exact this
  ·show J2p_1_step (i:Int) seed z (J8h seed i)=_
   unfold J2p_1_step
   have hl:=(Jfc seed i).2
   have s0:=Jt4 seed hs i 0 (by omega) (by omega)
   have s1:=Jt4 seed hs i 1 (by omega) (by omega)
   rw [show ((0:Nat):Int)=0 from rfl] at s0
   rw [show ((1:Nat):Int)=1 from rfl] at s1
   rw [J6j (by omega),s0,J6f,Jst _ (Jc9 _ _ _),J6f,s1,J6f,Jst _ (Jc9 _ _ _),J6f,J6g (by simp; omega),J6k (by omega) (by omega)]
   unfold J8h
   rw [Jeu]
   rfl
  ·show J2p_1_step 32 seed z (J8h seed 32)=_
   unfold J2p_1_step
   rw [J6h (by omega)]
 unfold J2p
 obtain ⟨h1,h2⟩:=Jfc seed 32
 rw [main,J6f]
 simp only
 rw [K1t _ (by omega) h1]
 rfl
def Jar (seed d:List UInt8) (n:Nat):List (List UInt8):=(List.range n).map fun i=>secS seed i (bitN d i)
def Jas (seed d:List UInt8) (n:Nat):List (List UInt8):=(List.range n).map fun i=>pubS (secS seed i (1 - bitN d i))
def Jk4 (seed m:List UInt8):One:=(Jar seed (digS m) 32,Jas seed (digS m) 32,())
theorem mapRange {α:Type} (f:Nat→α) (n:Nat):(List.range (n+1)).map f=(List.range n).map f++[f n]:=by
 rw [List.range_succ,List.map_append]; rfl
theorem K1l (m:List UInt8) (hm:m.length≤100000):Jw 109 [m]=some (digS m):=by
 have hf:[m].flatten=m:=by simp
 rw [J81 _ _ (by rw [hf]; omega) (by simp),hf]
 rfl
theorem K4k (seed m:List UInt8) (hs:seed.length=32) (hm:m.length≤100000):J25 seed m=some (Jk4 seed m):=by
 have main:∀ d,J25_1 0 seed () () [] [] d=some ((),(),Jar seed d 32,Jas seed d 32):=by
  intro d
  unfold J25_1
  have:=J6s (step:=fun (s:Int×List (List UInt8)×List (List UInt8))=>J25_1_step s.1 seed () () s.2.1 s.2.2 d) (fun i (_:Unit)=>((i:Int),Jar seed d i,Jas seed d i)) (fun _ _=>()) (fun _=>((),(),Jar seed d 32,Jas seed d 32)) 32 (fun _ _=>True) (fun i w hi _=>⟨?_,trivial⟩) (fun w _=>?_) 32 0 () (by omega) trivial
  ·exact this
  ·show J25_1_step (i:Int) seed () () (Jar seed d i) (Jas seed d i) d=_
   unfold J25_1_step
   have hb:=Jhw d i
   have lo:(Jar seed d i).length=i:=by simp [Jar]
   have ls:(Jas seed d i).length=i:=by simp [Jas]
   rw [J6j (by omega),K1f d i (by omega),J6f,Jt4 seed hs i _ (by omega) (by omega),J6f,J6g (by simp; omega),J6k (by omega) (by omega),show (1:Int) - ((bitN d i:Nat):Int)=((1 - bitN d i:Nat):Int) from by omega,
    Jt4 seed hs i _ (by omega) (by omega),J6f,Jst _ (Jc9 _ _ _),J6f,J6g (by simp; omega),J6k (by omega) (by omega)]
   unfold Jar Jas
   rw [mapRange,mapRange]
   rfl
  ·show J25_1_step 32 seed () () (Jar seed d 32) (Jas seed d 32) d=_
   unfold J25_1_step
   rw [J6h (by omega)]
 unfold J25
 rw [K1l m hm,J6f,main,J6f]
 rfl
def Jh5 (d:List UInt8) (o s:List (List UInt8)) (i:Nat):List (List UInt8):=if bitN d i=0 then [pubS (o.getD i zH),s.getD i zH] else [s.getD i zH,pubS (o.getD i zH)]
def Jdz (d:List UInt8) (o s:List (List UInt8)):List (List UInt8):=(List.range 32).flatMap (Jh5 d o s)
def Len32 (l:List (List UInt8)):Prop:=∀ x ∈ l,x.length=32
def whoS (m:List UInt8) (x:One):List UInt8×Bool:=if x.1.length=32∧x.2.1.length=32 then (keyS (Jdz (digS m) x.1 x.2.1),true) else (zH,false)
theorem Jzg (d:List UInt8) (o s:List (List UInt8)) (i:Nat):(Jh5 d o s i).length=2:=by unfold Jh5; split <;> rfl
theorem Jgl (d:List UInt8) (o s:List (List UInt8)):∀ n,((List.range n).flatMap (Jh5 d o s)).length=2 * n
 | 0=>rfl
 | n+1=>by rw [Jeu,List.length_append,Jgl d o s n,Jzg]; omega
theorem Jv9 (d:List UInt8) (o s:List (List UInt8)) (hs:Len32 s) (n:Nat):Len32 ((List.range n).flatMap (Jh5 d o s)):=by
 intro x hx
 obtain ⟨i,_,hi⟩:=List.mem_flatMap.1 hx
 unfold Jh5 at hi
 split at hi <;> simp only [List.mem_cons,List.not_mem_nil,or_false] at hi <;> rcases hi with rfl | rfl <;> first | exact Jmp _ | exact Jhb s hs i
theorem Jt7 {α:Type} (a l:List α) (k:Nat) (x:α) (n:Nat) (h:n=a.length+k):(a++l).set n x=a++l.set k x:=by
 subst h; exact Jr5 a l k x
theorem who_1 (d:List UInt8) (z:List UInt8) (x:One) (ho:x.1.length=32) (hs:x.2.1.length=32) (lo:Len32 x.1):J2q_1 0 x z d (List.replicate 64 zH)=some (z,Jdz d x.1 x.2.1):=by
 unfold J2q_1
 have:=J6s (step:=fun (s:Int×List (List UInt8))=>J2q_1_step s.1 x z d s.2) (fun i (_:Unit)=>((i:Int),(List.range i).flatMap (Jh5 d x.1 x.2.1)++List.replicate (64 - 2 * i) zH)) (fun _ _=>()) (fun _=>(z,Jdz d x.1 x.2.1)) 32 (fun _ _=>True) (fun i w hi _=>⟨?_,trivial⟩) (fun w _=>?_) 32 0 () (by omega) trivial
 ·exact this
 ·show J2q_1_step (i:Int) x z d ((List.range i).flatMap (Jh5 d x.1 x.2.1)++List.replicate (64 - 2 * i) zH)=_
  unfold J2q_1_step
  have hb:=Jhw d i
  have hl:=Jgl d x.1 x.2.1 i
  have hlen:((List.range i).flatMap (Jh5 d x.1 x.2.1)++List.replicate (64 - 2 * i) zH).length=64:=by rw [List.length_append,hl,List.length_replicate]; omega
  rw [J6j (by omega),K1f d i (by omega),J6f,J6g (by omega),Int.toNat_natCast,Jst _ (Jhb _ lo i),J6f,J6g (by omega)]
  have e1:w64 (w64 (2 * (i:Int))+((bitN d i:Nat):Int))=((2 * i+bitN d i:Nat):Int):=by rw [J6k (n:=2 * (i:Int)) (by omega) (by omega),J6k (by omega) (by omega)]; omega
  have e2:w64 (w64 (w64 (2 * (i:Int))+1) - ((bitN d i:Nat):Int))=((2 * i+1 - bitN d i:Nat):Int):=by rw [J6k (n:=2 * (i:Int)) (by omega) (by omega),J6k (n:=2 * (i:Int)+1) (by omega) (by omega),J6k (by omega) (by omega)]; omega
  rw [e1,e2,hlen,J6g (by omega),List.length_set,hlen,J6g (by omega),Int.toNat_natCast,Int.toNat_natCast,J6k (by omega) (by omega),Jeu]
  have hr:List.replicate (64 - 2 * i) zH=zH::zH::List.replicate (64 - 2 * (i+1)) zH:=by
   rw [show 64 - 2 * i=(64 - 2 * (i+1))+1+1 from by omega,List.replicate_succ,List.replicate_succ]
  rw [hr]
  have hw:Jh5 d x.1 x.2.1 i=if bitN d i=0 then [pubS (x.1.getD i zH),x.2.1.getD i zH] else [x.2.1.getD i zH,pubS (x.1.getD i zH)]:=rfl
  rw [hw]
  rcases (show bitN d i=0∨bitN d i=1 by omega) with h0 | h0
  ·rw [h0,if_pos rfl,Jt7 _ _ 0 _ _ (by rw [hl]),Jt7 _ _ 1 _ _ (by rw [hl]; rfl),List.append_assoc]
   rfl
  ·rw [h0,if_neg (by omega),Jt7 _ _ 1 _ _ (by rw [hl]),Jt7 _ _ 0 _ _ (by rw [hl]; omega),List.append_assoc]
   rfl
 ·show J2q_1_step 32 x z d _=_
  unfold J2q_1_step
  rw [J6h (by omega)]
  simp [Jdz]
theorem who_eq (m:List UInt8) (hm:m.length≤100000) (x:One) (lo:Len32 x.1) (ls:Len32 x.2.1):J2q m x=some (whoS m x):=by
 unfold J2q whoS
 by_cases ho:x.1.length=32
 ·rw [J9v (by omega)]
  by_cases hs:x.2.1.length=32
  ·rw [J9v (by omega),K1l m hm,J6f,J6g (by omega),if_pos ⟨ho,hs⟩]
   have w:=who_1 (digS m) zH x ho hs lo
   rw [show Int.toNat (64:Int)=64 from rfl,w,J6f]
   simp only
   have hk:J2a (Jdz (digS m) x.1 x.2.1)=some (keyS (Jdz (digS m) x.1 x.2.1)):=K1t _ (by unfold Jdz; rw [Jgl]; omega) (Jv9 _ _ _ ls 32)
   rw [hk]
   rfl
  ·rw [Jbv (by omega),if_neg (fun h=>hs h.2)]
 ·rw [Jbv (by omega),if_neg (fun h=>ho h.1)]
theorem Jta (seed m:List UInt8):(Jk4 seed m).1.length=32∧(Jk4 seed m).2.1.length=32∧Len32 (Jk4 seed m).1∧Len32 (Jk4 seed m).2.1:=by
 refine ⟨by simp [Jk4,Jar],by simp [Jk4,Jas],fun x hx=>?_,fun x hx=>?_⟩
 ·obtain ⟨i,_,rfl⟩:=List.mem_map.1 hx; exact Jc9 _ _ _
 ·obtain ⟨i,_,rfl⟩:=List.mem_map.1 hx; exact Jmp _
theorem Jew (f:Nat→List UInt8) (n i:Nat) (h:i < n):((List.range n).map f).getD i zH=f i:=by
 rw [List.getD_eq_getElem?_getD,List.getElem?_map,List.getElem?_range h]; rfl
def Jp0 (seed d e:List UInt8) (i:Nat):List (List UInt8):=if bitN d i=bitN e i then Juo seed i else [pubS (secS seed i 1),pubS (secS seed i 0)]
theorem Jrd (seed d e:List UInt8):Jdz e (Jar seed d 32) (Jas seed d 32)=(List.range 32).flatMap (Jp0 seed d e):=by
 unfold Jdz
 have:∀ i ∈ List.range 32,Jh5 e (Jar seed d 32) (Jas seed d 32) i=Jp0 seed d e i:=by
  intro i hi
  have hi:i < 32:=List.mem_range.1 hi
  unfold Jh5 Jp0 Jar Jas Juo
  rw [Jew _ 32 i hi,Jew _ 32 i hi]
  have h1:=Jhw d i
  have h2:=Jhw e i
  rcases (show bitN d i=0∨bitN d i=1 by omega) with a | a <;> rcases (show bitN e i=0∨bitN e i=1 by omega) with b | b <;> simp [a,b]
 rw [Jie this]
theorem K18 (seed m:List UInt8):whoS m (Jk4 seed m)=(KeyS seed,true):=by
 obtain ⟨h1,h2,_,_⟩:=Jta seed m
 unfold whoS
 rw [if_pos ⟨h1,h2⟩]
 show (keyS (Jdz (digS m) (Jar seed (digS m) 32) (Jas seed (digS m) 32)),true)=_
 rw [Jrd]
 have:∀ i ∈ List.range 32,Jp0 seed (digS m) (digS m) i=Juo seed i:=fun i _=>if_pos rfl
 rw [Jie this]
 rfl
def Jjn (seed:List UInt8) (h:Nat):List UInt8:=sha (114::(seed++[UInt8.ofNat h]))
def Jg3 (seed:List UInt8) (n:Nat):List (List UInt8):=(List.range n).map fun i=>KeyS (Jjn seed (i+1))
def J96 (seed:List UInt8):List (List UInt8):=Jg3 seed 16
noncomputable def Jko (seed:List UInt8):List UInt8:=J8u (J96 seed)
abbrev Sig:=Int×One×List (List UInt8)×Unit
noncomputable def byS (keys:List (List UInt8)) (seed:List UInt8) (h:Int) (m:List UInt8):Sig:=(h,Jk4 (Jjn seed h.toNat) m,Jbg keys (h - 1),())
def noSig:Sig:=(0,([],[],()),[],())
def isH (h:Int):Bool:=decide (1≤h) && decide (h≤16)
def verS (id:List UInt8) (j:Int) (m:List UInt8) (s:Sig):Bool:=
 isH j && (decide (s.1=j) && ((whoS m s.2.1).2 && ((upS (whoS m s.2.1).1 (j - 1) 16 s.2.2.1).2 && Ty.beq (.arr 32 (.int .u8)) (upS (whoS m s.2.1).1 (j - 1) 16 s.2.2.1).1 id)))
theorem Jfk (seed:List UInt8) (h:Nat):(Jjn seed h).length=32:=J86 _
theorem Jzl (seed:List UInt8):(KeyS seed).length=32:=Js6 _
theorem Jvd (seed:List UInt8) (hs:seed.length=32) (h:Nat):J5e seed (h:Int)=some (Jjn seed h):=by
 unfold J5e
 have hf:[seed,[UInt8.ofNat (Int.toNat ((h:Int) % 256))]].flatten=seed++[UInt8.ofNat h]:=by
  rw [J9b]; simp
 rw [J81 _ _ (by rw [hf]; simp; omega) (by simp),hf]
 rfl
theorem Jim (seed:List UInt8) (n:Nat):(Jg3 seed n).length=n:=by simp [Jg3]
theorem Ky (seed:List UInt8) (n:Nat):Len32 (Jg3 seed n):=by
 intro x hx
 obtain ⟨i,_,rfl⟩:=List.mem_map.1 hx
 exact Jzl _
theorem J8n (seed:List UInt8):(J96 seed).length=16:=Jim _ _
theorem Je8 (seed:List UInt8):Small (J96 seed):=fun x hx=>by rw [Ky seed 16 x hx]; omega
theorem Kz (seed:List UInt8) (i:Nat) (h:i < 16):(J96 seed).getD i []=KeyS (Jjn seed (i+1)):=by
 unfold J96 Jg3
 rw [List.getD_eq_getElem?_getD,List.getElem?_map,List.getElem?_range h]; rfl
theorem K2i (seed:List UInt8) (hs:seed.length=32):J1k seed=some (J96 seed):=by
 have main:J1k_1 1 seed []=some (J96 seed):=by
  unfold J1k_1
  have:=J6s (step:=fun (s:Int×List (List UInt8))=>J1k_1_step s.1 seed s.2) (fun i (_:Unit)=>(((i+1:Nat):Int),Jg3 seed i)) (fun _ _=>()) (fun _=>J96 seed) 16 (fun _ _=>True) (fun i w hi _=>⟨?_,trivial⟩) (fun w _=>?_) 16 0 () (by omega) trivial
  ·exact this
  ·show J1k_1_step ((i+1:Nat):Int) seed (Jg3 seed i)=_
   unfold J1k_1_step
   have hl:=Jim seed i
   rw [J6j (by omega),Jvd seed hs,J6f,Key_eq _ (Jfk _ _),J6f,J6g (by simp; omega),J6k (by omega) (by omega)]
   unfold Jg3
   rw [mapRange]
   rfl
  ·show J1k_1_step 17 seed (Jg3 seed 16)=_
   unfold J1k_1_step
   rw [J6h (by omega)]
   rfl
 unfold J1k
 rw [main]
 rfl
theorem K1q (h:Int):J5v h=some (isH h):=by
 unfold J5v isH
 by_cases c:1≤h
 ·rw [J6j c,decide_eq_true c]; rfl
 ·rw [J6h c,decide_eq_false c]; rfl
theorem isH_t {h:Int} (h1:1≤h) (h2:h≤16):isH h=true:=by unfold isH; rw [decide_eq_true h1,decide_eq_true h2]; rfl
theorem K3b {h:Int}:isH h=true↔1≤h∧h≤16:=by unfold isH; rw [Bool.and_eq_true,decide_eq_true_eq,decide_eq_true_eq]
theorem By_eq (keys:List (List UInt8)) (hk:keys.length < 64) (hks:Small keys) (seed m:List UInt8) (hs:seed.length=32) (h:Int) (h1:1≤h) (h2:h≤16) (hm:m.length≤100000):J66 keys seed h m=some (byS keys seed h m):=by
 obtain ⟨k,rfl⟩:=Int.eq_ofNat_of_zero_le (show 0≤h by omega)
 unfold J66 byS
 rw [K1q,isH_t h1 h2,J6f,show (!true)=false from rfl,J6r,Jvd seed hs,J6f,K4k _ m (Jfk _ _) hm,J6f,J6k (by omega) (by omega),Jy3 keys _ hk hks,J6f,Int.toNat_natCast]
noncomputable def sigS (seed:List UInt8) (h:Int) (m:List UInt8):Sig:=byS (J96 seed) seed h m
theorem K17 (m:List UInt8) (x:One):(whoS m x).1.length=32:=by
 unfold whoS
 split
 ·exact Js6 _
 ·rfl
def Jtp (s:Sig):Prop:=Len32 s.2.1.1∧Len32 s.2.1.2.1∧Len32 s.2.2.1∧s.2.2.1.length≤100000
theorem Ver_eq (id:List UInt8) (j:Int) (m:List UInt8) (hm:m.length≤100000) (s:Sig) (hs:Jtp s):J55 id j m s=some (verS id j m s):=by
 obtain ⟨s1,s2,s3,s4⟩:=hs
 unfold J55 verS
 rw [K1q,J6f]
 cases hj:isH j with
 | false=>rfl
 | true=>
  obtain ⟨j1,j2⟩:=K3b.1 hj
  rw [show (!true)=false from rfl,J6r,Bool.true_and]
  by_cases c:s.1=j
  ·rw [J9v c,decide_eq_true c,Bool.true_and,who_eq m hm s.2.1 s1 s2,J6f]
   cases (whoS m s.2.1).2 with
   | false=>rfl
   | true=>
    rw [show (!true)=false from rfl,J6r,Bool.true_and,J6k (by omega) (by omega),up_eq _ (by rw [K17]; omega) _ _ (by omega) _ s3 s4,J6f]
    cases (upS (whoS m s.2.1).1 (j - 1) 16 s.2.2.1).2 <;> rfl
  ·rw [Jbv c,decide_eq_false c]; rfl
theorem Jyu:∀ i,i < 16→(J91 16 i 16).length=4:=by decide
theorem K22 (seed:List UInt8) (h:Int) (h1:1≤h) (h2:h≤16):Jbg (J96 seed) (h - 1)=J8a 16 (J96 seed) (h - 1).toNat∧(Jbg (J96 seed) (h - 1)).length=4∧Len32 (Jbg (J96 seed) (h - 1)):=by
 have e:Jbg (J96 seed) (h - 1)=J8a 16 (J96 seed) (h - 1).toNat:=by
  unfold Jbg
  rw [J8n,if_pos (by omega)]
 rw [e]
 refine ⟨rfl,?_,Jhh _ _ _⟩
 rw [Ja7 _ _ _ (by rw [J8n]; omega),J8n,Jyu _ (by omega)]
theorem sig_ok (seed:List UInt8) (h:Int) (h1:1≤h) (h2:h≤16) (m:List UInt8):Jtp (sigS seed h m):=by
 obtain ⟨_,_,a,b⟩:=Jta (Jjn seed h.toNat) m
 obtain ⟨_,p1,p2⟩:=K22 seed h h1 h2
 exact ⟨a,b,p2,by show (Jbg (J96 seed) (h - 1)).length≤100000; omega⟩
theorem K05:Jtp noSig:=⟨(fun x hx=>nomatch hx),(fun x hx=>nomatch hx),(fun x hx=>nomatch hx),by show (0:Nat)≤100000; omega⟩
theorem K4v (id seed:List UInt8) (h:Int) (h1:1≤h) (h2:h≤16) (m:List UInt8):verS id h m (sigS seed h m)=Ty.beq (.arr 32 (.int .u8)) (Jko seed) id:=by
 obtain ⟨p0,p1,p2⟩:=K22 seed h h1 h2
 have hw:whoS m (sigS seed h m).2.1=(KeyS (Jjn seed h.toNat),true):=K18 _ _
 have hk:KeyS (Jjn seed h.toNat)=(J96 seed).getD (h - 1).toNat []:=by
  rw [Kz seed _ (by omega),show (h - 1).toNat+1=h.toNat from by omega]
 have hup:upS (KeyS (Jjn seed h.toNat)) (h - 1) 16 (sigS seed h m).2.2.1=(Jko seed,true):=by
  show upS (KeyS (Jjn seed h.toNat)) (h - 1) 16 (Jbg (J96 seed) (h - 1))=_
  unfold upS
  have e16:(16:Int).toNat=16:=rfl
  rw [e16,if_pos ⟨(Jme _ _).2 (by omega),by rw [p1,Jyu _ (by omega)]⟩,p0,hk]
  have:=Jmk 16 (J96 seed) (h - 1).toNat (by rw [J8n]; omega) (by rw [J8n]; omega) (by rw [J8n]; omega)
  rw [J8n] at this
  rw [this]
  rfl
 unfold verS
 rw [hw,isH_t h1 h2]
 simp only
 rw [hup,decide_eq_true (show (sigS seed h m).1=h from rfl)]
 rfl
theorem Jmz (seed:List UInt8) (hs:seed.length=32) (i v:Nat) (hi:i < 256) (hv:v < 256):J1b seed (i:Int) (v:Int)=some (secS seed i v):=by
 unfold J1b
 have hf:[seed,[UInt8.ofNat (Int.toNat ((i:Int) % 256)),UInt8.ofNat (Int.toNat ((v:Int) % 256))]].flatten=seed++[UInt8.ofNat i,UInt8.ofNat v]:=by
  rw [J9b,J9b]; simp
 rw [J7w _ _ (by rw [hf]; simp; omega) (by simp),hf]
 rfl
theorem Jr3 (s:List UInt8) (hs:s.length=32):J1z s=some (pubS s):=by
 unfold J1z
 have hf:[s].flatten=s:=by simp
 rw [J7w _ _ (by rw [hf]; omega) (by simp),hf]
 rfl
theorem K3w (m:List UInt8) (hm:m.length≤100000):Je 109 [m]=some (digS m):=by
 have hf:[m].flatten=m:=by simp
 rw [J7w _ _ (by rw [hf]; omega) (by simp),hf]
 rfl
theorem K3u (d:List UInt8) (i:Nat) (hi:i < 256):need (0≤(w64 (Int.tdiv (i:Int) (8:Int)))∧(w64 (Int.tdiv (i:Int) (8:Int))) < (32:Int)) (need (0≤(((UInt64.ofNat (Int.toNat ((w64 ((7:Int) - (Int.tmod (i:Int) (8:Int)))) % 18446744073709551616))).toNat:Nat):Int))
  (some (band ((UInt8.toNat (UInt8.ofNat (UInt8.toNat (List.getD d (Int.toNat (w64 (Int.tdiv (i:Int) (8:Int)))) (0:UInt8)) >>> (Int.toNat (((UInt64.ofNat (Int.toNat ((w64 ((7:Int) - (Int.tmod (i:Int) (8:Int)))) % 18446744073709551616))).toNat:Nat):Int)))):Nat):Int) (1:Int))))=some ((bitN d i:Nat):Int):=by
 have e1:Int.tdiv (i:Int) 8=((i / 8:Nat):Int):=by rw [Int.tdiv_eq_ediv_of_nonneg (by omega)]; omega
 have e2:Int.tmod (i:Int) 8=((i % 8:Nat):Int):=by rw [Int.tmod_eq_emod_of_nonneg (by omega)]; omega
 have e3:(UInt64.ofNat (Int.toNat ((7 - ((i % 8:Nat):Int)) % 18446744073709551616))).toNat=7 - i % 8:=by
  rw [show Int.toNat ((7 - ((i % 8:Nat):Int)) % 18446744073709551616)=7 - i % 8 from by omega,UInt64.toNat_ofNat']; omega
 rw [e1,e2,J6k (by omega) (by omega),J6k (by omega) (by omega),J6g (by omega),e3,J6g (by omega),Int.toNat_natCast,Int.toNat_natCast]
 generalize hx:d.getD (i / 8) 0=x
 have hlt:=x.toNat_lt
 have hs:x.toNat >>> (7 - i % 8)≤x.toNat:=by rw [Nat.shiftRight_eq_div_pow]; exact Nat.div_le_self _ _
 rw [UInt8.toNat_ofNat',Nat.mod_eq_of_lt (by omega)]
 have hb:=Jlf (x.toNat >>> (7 - i % 8)) 1 (by omega) (by omega)
 rw [show ((1:Nat):Int)=1 from rfl] at hb
 rw [hb,show (1:Nat)=2 ^ 1 - 1 from rfl,Nat.and_two_pow_sub_one_eq_mod]
 unfold bitN
 rw [hx]
theorem K3v (m:List UInt8) (hm:m.length≤100000) (i:Nat) (hi:i < 256):J4f m (i:Int)=some ((bitN (digS m) i:Nat):Int):=by
 unfold J4f
 rw [K3w m hm,J6f]
 exact K3u (digS m) i hi
theorem K44 (l:List (List UInt8)) (hl:l.length≤1000) (h:∀ x ∈ l,x.length=32):J0d l=some (keyS l):=by
 have hlen:∀ i,((l.take i).flatten).length≤32 * l.length:=fun i=>by
  rw [Jrz _ fun x hx=>h x (List.mem_of_mem_take hx),List.length_take]; omega
 have main:∀ z,J0d_1 l (l.length:Int) 0 z []=some (z,l.flatten):=by
  intro z
  unfold J0d_1
  have:=J6s (step:=fun (s:Int×List UInt8)=>J0d_1_step l (l.length:Int) s.1 z s.2) (fun i (_:Unit)=>((i:Int),(l.take i).flatten)) (fun _ _=>()) (fun _=>(z,l.flatten)) l.length (fun _ _=>True) (fun i w hi _=>⟨?_,trivial⟩) (fun w _=>?_) l.length 0 () (by omega) trivial
  ·exact this
  ·show J0d_1_step l (l.length:Int) (i:Int) z (l.take i).flatten=_
   unfold J0d_1_step
   have b:=hlen i
   have hm:(l.getD i (List.replicate 32 0)).length=32:=Jhb l h i
   rw [J6j (by omega),J6g (by omega),Int.toNat_natCast,J6g (by omega),J6k (by omega) (by omega),Jo5 l hi]
   rfl
  ·show J0d_1_step l (l.length:Int) (l.length:Int) z (l.take l.length).flatten=_
   unfold J0d_1_step
   rw [J6h (by omega),List.take_of_length_le (Nat.le_refl _)]
 unfold J0d
 have hf:[l.flatten].flatten=l.flatten:=by simp
 have:=Jrz l h
 rw [main,J6f]
 simp only
 rw [J7w _ _ (by rw [hf]; omega) (by simp),hf]
 rfl
theorem K3s (seed:List UInt8) (hs:seed.length=32):J0c seed=some (KeyS seed):=by
 have main:∀ z,J0c_1 0 seed z []=some (z,J8h seed 32):=by
  intro z
  unfold J0c_1
  have:=J6s (step:=fun (s:Int×List (List UInt8))=>J0c_1_step s.1 seed z s.2) (fun i (_:Unit)=>((i:Int),J8h seed i)) (fun _ _=>()) (fun _=>(z,J8h seed 32)) 32 (fun _ _=>True) (fun i w hi _=>⟨?_,trivial⟩) (fun w _=>?_) 32 0 () (by omega) trivial
  ·exact this
  ·show J0c_1_step (i:Int) seed z (J8h seed i)=_
   unfold J0c_1_step
   have hl:=(Jfc seed i).2
   have s0:=Jmz seed hs i 0 (by omega) (by omega)
   have s1:=Jmz seed hs i 1 (by omega) (by omega)
   rw [show ((0:Nat):Int)=0 from rfl] at s0
   rw [show ((1:Nat):Int)=1 from rfl] at s1
   rw [J6j (by omega),s0,J6f,Jr3 _ (Jc9 _ _ _),J6f,s1,J6f,Jr3 _ (Jc9 _ _ _),J6f,J6g (by simp; omega),J6k (by omega) (by omega)]
   unfold J8h
   rw [Jeu]
   rfl
  ·show J0c_1_step 32 seed z (J8h seed 32)=_
   unfold J0c_1_step
   rw [J6h (by omega)]
 unfold J0c
 obtain ⟨h1,h2⟩:=Jfc seed 32
 rw [main,J6f]
 simp only
 rw [K44 _ (by omega) h1]
 rfl
theorem K0q (seed m:List UInt8) (hs:seed.length=32) (hm:m.length≤100000):J06 seed m=some (Jk4 seed m):=by
 have main:J06_1 m 0 seed () () [] []=some ((),(),Jar seed (digS m) 32,Jas seed (digS m) 32):=by
  generalize hd:digS m=d
  unfold J06_1
  have:=J6s (step:=fun (s:Int×List (List UInt8)×List (List UInt8))=>J06_1_step m s.1 seed () () s.2.1 s.2.2) (fun i (_:Unit)=>((i:Int),Jar seed d i,Jas seed d i)) (fun _ _=>()) (fun _=>((),(),Jar seed d 32,Jas seed d 32)) 32 (fun _ _=>True) (fun i w hi _=>⟨?_,trivial⟩) (fun w _=>?_) 32 0 () (by omega) trivial
  ·exact this
  ·show J06_1_step m (i:Int) seed () () (Jar seed d i) (Jas seed d i)=_
   unfold J06_1_step
   have hb:=Jhw d i
   have lo:(Jar seed d i).length=i:=by simp [Jar]
   have ls:(Jas seed d i).length=i:=by simp [Jas]
   rw [J6j (by omega),K3v m hm i (by omega),J6f,hd,Jmz seed hs i _ (by omega) (by omega),J6f,J6g (by simp; omega),J6k (by omega) (by omega),show (1:Int) - ((bitN d i:Nat):Int)=((1 - bitN d i:Nat):Int) from by omega,
    Jmz seed hs i _ (by omega) (by omega),J6f,Jr3 _ (Jc9 _ _ _),J6f,J6g (by simp; omega),J6k (by omega) (by omega)]
   unfold Jar Jas
   rw [mapRange,mapRange]
   rfl
  ·show J06_1_step m 32 seed () () (Jar seed d 32) (Jas seed d 32)=_
   unfold J06_1_step
   rw [J6h (by omega)]
 unfold J06
 rw [main,J6f]
 rfl
theorem Jsw (seed:List UInt8) (hs:seed.length=32) (h:Nat):J2w seed (h:Int)=some (Jjn seed h):=by
 unfold J2w
 have hf:[seed,[UInt8.ofNat (Int.toNat ((h:Int) % 256))]].flatten=seed++[UInt8.ofNat h]:=by
  rw [J9b]; simp
 rw [J7w _ _ (by rw [hf]; simp; omega) (by simp),hf]
 rfl
theorem K0d (seed:List UInt8) (hs:seed.length=32):J02 seed=some (J96 seed):=by
 have main:J02_1 1 seed []=some (J96 seed):=by
  unfold J02_1
  have:=J6s (step:=fun (s:Int×List (List UInt8))=>J02_1_step s.1 seed s.2) (fun i (_:Unit)=>(((i+1:Nat):Int),Jg3 seed i)) (fun _ _=>()) (fun _=>J96 seed) 16 (fun _ _=>True) (fun i w hi _=>⟨?_,trivial⟩) (fun w _=>?_) 16 0 () (by omega) trivial
  ·exact this
  ·show J02_1_step ((i+1:Nat):Int) seed (Jg3 seed i)=_
   unfold J02_1_step
   have hl:=Jim seed i
   rw [J6j (by omega),Jsw seed hs,J6f,K3s _ (Jfk _ _),J6f,J6g (by simp; omega),J6k (by omega) (by omega)]
   unfold Jg3
   rw [mapRange]
   rfl
  ·show J02_1_step 17 seed (Jg3 seed 16)=_
   unfold J02_1_step
   rw [J6h (by omega)]
   rfl
 unfold J02
 rw [main]
 rfl
theorem rBy_eq (keys:List (List UInt8)) (hk:keys.length < 64) (hks:Small keys) (seed m:List UInt8) (hs:seed.length=32) (h:Int) (h1:1≤h) (h2:h≤16) (hm:m.length≤100000):J3w keys seed h m=some (byS keys seed h m):=by
 obtain ⟨k,rfl⟩:=Int.eq_ofNat_of_zero_le (show 0≤h by omega)
 unfold J3w byS
 rw [Jsw seed hs,J6f,K0q _ m (Jfk _ _) hm,J6f,J6k (by omega) (by omega),K0p keys _ hk hks,J6f,Int.toNat_natCast]
abbrev J7i:=List UInt8×Sig×Unit
def zSg:J7i:=(([]:List UInt8),((0:Int),(([]:List (List UInt8)),([]:List (List UInt8)),()),([]:List (List UInt8)),()),())
def nmsS (s:List J7i):List (List UInt8):=s.map (·.1)
theorem Jsi (s:List J7i) (i:Nat):(s.getD i zSg).1=(nmsS s).getD i []:=by
 unfold nmsS
 rw [List.getD_eq_getElem?_getD,List.getD_eq_getElem?_getD,List.getElem?_map]
 cases s[i]? <;> rfl
def incS (s:List J7i):Bool:=incN (nmsS s)
def Jga (s:List J7i):Bool:=incS s && decide (s.length≤5)
theorem Jee (s:List J7i) (i:Int):J1m_1_step s i=(fork (decide (i < (s.length:Int))) (need (0≤(w64 (i - 1))∧(w64 (i - 1)) < (s.length:Int)) (need (0≤i∧i < (s.length:Int)) (fork (!J6z (s.getD (Int.toNat (w64 (i - 1))) zSg).1 (s.getD (Int.toNat i) zSg).1) (some (.inr (.inl false))) (some (.inl (w64 (i+1))))))) (some (.inr (.inr s))):Option (Int⊕(Bool⊕List J7i))):=rfl
theorem Jt2 (s:List J7i) {ρ:Type} (r r0:ρ):∀ (k i:Nat),i+k=s.length - 1→(∀ j,j < i→J6z (s.getD j zSg).1 (s.getD (j+1) zSg).1=true)→
  scan (fun i=>if J6z (s.getD i zSg).1 (s.getD (i+1) zSg).1=true then none else some r) r0 i k=if incS s=true then r0 else r
 | 0,i,h,hj=>by
  have:incS s=true:=List.all_eq_true.2 fun j hj'=>by
   have hj':j < (nmsS s).length - 1:=by simpa using hj'
   have hl:(nmsS s).length=s.length:=by simp [nmsS]
   rw [← Jsi,← Jsi]
   exact hj j (by omega)
  rw [if_pos this]; rfl
 | k+1,i,h,hj=>by
  rw [scan]
  by_cases e:J6z (s.getD i zSg).1 (s.getD (i+1) zSg).1=true
  ·rw [if_pos e]
   exact Jt2 s r r0 k (i+1) (by omega) fun j hj'=>by
    rcases (show j < i∨j=i by omega) with h1 | rfl
    ·exact hj j h1
    ·exact e
  ·rw [if_neg e]
   have hl:(nmsS s).length=s.length:=by simp [nmsS]
   have:¬ incS s=true:=fun hall=>e (by
    have:=List.all_eq_true.1 hall i (by simp; omega)
    rwa [← Jsi,← Jsi] at this)
   rw [if_neg this]
theorem Jpi (s:List J7i) (hs:s.length≤1073741824):J1m s=some (Jga s):=by
 have h:J1m_1 s 1=some (scan (fun i=>if J6z (s.getD i zSg).1 (s.getD (i+1) zSg).1=true then none else some (.inl false)) (.inr s) 0 (s.length - 1)):=by
  unfold J1m_1
  refine J97 (step:=fun (x:Int)=>J1m_1_step s x) (fun i=>((i+1:Nat):Int)) _ _ (s.length - 1) (fun i hi h=>?_) (fun i r hi h=>?_) ?_ (s.length - 1) 0 (by omega)
  ·rw [Jee,J6j (by omega),J6k (n:=((i+1:Nat):Int) - 1) (by omega) (by omega),J6g (by omega),J6g (by omega),show Int.toNat (((i+1:Nat):Int) - 1)=i from by omega,Int.toNat_natCast]
   by_cases e:J6z (s.getD i zSg).1 (s.getD (i+1) zSg).1=true
   ·rw [e,J6k (by omega) (by omega)]; rfl
   ·rw [if_neg e] at h; cases h
  ·rw [Jee,J6j (by omega),J6k (n:=((i+1:Nat):Int) - 1) (by omega) (by omega),J6g (by omega),J6g (by omega),show Int.toNat (((i+1:Nat):Int) - 1)=i from by omega,Int.toNat_natCast]
   by_cases e:J6z (s.getD i zSg).1 (s.getD (i+1) zSg).1=true
   ·rw [if_pos e] at h; cases h
   ·rw [if_neg e] at h; injection h with h; subst h
    rw [Bool.not_eq_true] at e
    rw [e]; rfl
  ·rw [Jee,J6h (by omega)]
 unfold J1m Jga
 rw [h,J6f,Jt2 s _ _ (s.length - 1) 0 (by omega) (fun j hj=>by omega)]
 cases incS s with
 | true=>
  show some (decide ((s.length:Int)≤5))=some (true && decide (s.length≤5))
  rw [Bool.true_and]
  congr 1
  exact decide_eq_decide.2 (by omega)
 | false=>rfl
def Jjt (h:Hdr):List UInt8:=sha (72::Jcc h)
theorem Jju (h:Hdr):(Jjt h).length=32:=J86 _
theorem Jz9 (h:Hdr) (hh:J8v h):J5g h=some (Jjt h):=by
 unfold J5g
 rw [Jih h hh]
 rfl
noncomputable def sgS (h:Hdr) (n seed:List UInt8):J7i:=(n,sigS seed h.1 (Jjt h),())
def SgOk (s:List J7i):Prop:=∀ x ∈ s,Jtp x.2.1
theorem sg_at {s:List J7i} (h:SgOk s) (i:Nat):Jtp (s.getD i zSg).2.1:=by
 rw [List.getD_eq_getElem?_getD]
 cases e:s[i]? with
 | none=>exact K05
 | some x=>exact h x (List.mem_of_getElem? e)
def Ju7 (set:List Val) (h:Int) (d:List UInt8) (x:J7i):Bool:=(Jo3 set x.1).2 && verS (Jo3 set x.1).1.2.2.1 h d x.2.1
def Jce (set:List Val) (h:Int) (d:List UInt8) (s:List J7i):List (List UInt8):=(s.filter (Ju7 set h d)).map (·.1)
def Jgw (set:List Val) (h:Hdr) (s:List J7i):List (List UInt8):=if Jga s then Jce set h.1 (Jjt h) s else []
theorem Jkw (set:List Val) (h:Int) (d:List UInt8) (s:List J7i):(Jce set h d s).length≤s.length:=by
 unfold Jce
 rw [List.length_map]
 exact List.length_filter_le _ _
theorem Jqq (set:List Val) (h:Int) (d:List UInt8) (s:List J7i) {i:Nat} (hi:i < s.length):Jce set h d (s.take (i+1))=Jce set h d (s.take i)++(if Ju7 set h d (s.getD i zSg) then [(s.getD i zSg).1] else []):=by
 unfold Jce
 rw [List.take_add_one,List.getElem?_eq_getElem hi,List.getD_eq_getElem?_getD,List.getElem?_eq_getElem hi]
 simp only [Option.toList_some,Option.getD_some,List.filter_append,List.map_append]
 by_cases hg:Ju7 set h d s[i]
 ·rw [List.filter_cons_of_pos hg,if_pos hg]; rfl
 ·rw [List.filter_cons_of_neg hg,if_neg hg]; rfl
theorem Jiz (set:List Val) (s:List J7i) (n i:Int) (h:Hdr) (o:List (List UInt8)) (d:List UInt8):J1d_1_step set s n i h o d=(fork (decide (i < n)) (need (0≤i∧i < (s.length:Int)) (andThen (J1t set (s.getD (Int.toNat i) zSg).1) (fun u9=>fork u9.2 (andThen (J55 u9.1.2.2.1 h.1 d (s.getD (Int.toNat i) zSg).2.1) (fun u12=>fork u12 (need (o.length+([(s.getD (Int.toNat i) zSg).1]:List (List UInt8)).length≤2147483648) (some (.inl ((w64 (i+1)),o++([(s.getD (Int.toNat i) zSg).1]:List (List UInt8)))))) (some (.inl ((w64 (i+1)),o))))) (some (.inl ((w64 (i+1)),o)))))) (some (.inr o)):Option ((Int×List (List UInt8))⊕(List (List UInt8)))):=rfl
theorem K04 (set:List Val) (hset:set.length≤1073741824) (h:Hdr) (hh:J8v h) (s:List J7i) (hl:s.length≤1073741824) (hs:SgOk s):J1d set h s=some (Jgw set h s):=by
 unfold J1d Jgw
 rw [Jpi s hl,J6f]
 cases hr:Jga s with
 | false=>rfl
 | true=>
  have main:∀ d:List UInt8,d.length≤100000→J1d_1 set s (s.length:Int) 0 h [] d=some (Jce set h.1 d s):=by
   intro d hd
   unfold J1d_1
   have:=J6s (step:=fun (x:Int×List (List UInt8))=>J1d_1_step set s (s.length:Int) x.1 h x.2 d) (fun i (_:Unit)=>((i:Int),Jce set h.1 d (s.take i))) (fun _ _=>()) (fun _=>Jce set h.1 d s) s.length (fun _ _=>True) (fun i w hi _=>⟨?_,trivial⟩) (fun w _=>?_) s.length 0 () (by omega) trivial
   ·exact this
   ·show J1d_1_step set s (s.length:Int) (i:Int) h (Jce set h.1 d (s.take i)) d=_
    have b:=Jkw set h.1 d (s.take i)
    rw [List.length_take] at b
    have t:=Jqq set h.1 d s hi
    rw [Jiz,J6j (by omega),J6g (by omega),Int.toNat_natCast,K31 set hset,J6f,t,J6k (by omega) (by omega)]
    unfold Ju7
    cases hf:(Jo3 set (s.getD i zSg).1).2 with
    | false=>rw [J6r,Bool.false_and,if_neg (by simp),List.append_nil]; rfl
    | true=>
     rw [J7m,Bool.true_and,Ver_eq _ _ d hd _ (sg_at hs i),J6f]
     cases hv:verS (Jo3 set (s.getD i zSg).1).1.2.2.1 h.1 d (s.getD i zSg).2.1 with
     | false=>rw [J6r,if_neg (by simp),List.append_nil]; rfl
     | true=>rw [J7m,J6g (by simp; omega),if_pos rfl]; rfl
   ·show J1d_1_step set s (s.length:Int) (s.length:Int) h (Jce set h.1 d (s.take s.length)) d=_
    rw [Jiz,J6h (by omega),List.take_of_length_le (Nat.le_refl _)]
  rw [show (!true)=false from rfl,J6r,Jz9 h hh,J6f,main _ (by rw [Jju]; omega),if_pos rfl]
  rfl
theorem Jui (set:List Val) (h:Hdr) (s:List J7i):(Jgw set h s).length≤s.length:=by
 unfold Jgw
 split
 ·exact Jkw _ _ _ _
 ·simp
def Jh3 (set:List Val) (h:Hdr) (s:List J7i):Int:=pow (fun v=>(Jgw set h s).contains v.1) set
def allS (set:List Val):Int:=pow (fun _=>true) set
theorem K20 (set:List Val) (hset:Jcb set) (h:Hdr) (s:List J7i):0≤Jh3 set h s∧Jh3 set h s≤4294967296:=by
 have:=Jag (fun v=>(Jgw set h s).contains v.1) set hset.2
 have:=hset.1
 unfold Jh3
 omega
theorem all_b (set:List Val) (hset:Jcb set):0≤allS set∧allS set≤4294967296:=by
 have:=Jag (fun _=>true) set hset.2
 have:=hset.1
 unfold allS
 omega
theorem Jgz (set:List Val) (hset:Jcb set) (h:Hdr) (hh:J8v h) (s:List J7i) (hl:s.length≤1000000) (hs:SgOk s):J4z set h s=some (Jh3 set h s,allS set):=by
 have:=Jui set h s
 unfold J4z
 rw [K04 set (by have:=hset.1; omega) h hh s (by omega) hs,J6f,K11 set hset _ (by omega)]
 rfl
theorem Jwf (set:List Val) (hset:Jcb set) (h:Hdr) (hh:J8v h) (s:List J7i) (hl:s.length≤1000000) (hs:SgOk s):J4t set h s=some (decide (allS set * 2 < Jh3 set h s * 3)):=by
 unfold J4t
 rw [Jgz set hset h hh s hl hs,J6f,Jxx _ 2 3 (K20 set hset h s) (all_b set hset) (by omega) (by omega)]
 rfl
theorem K4l (set:List Val) (hset:Jcb set) (h:Hdr) (hh:J8v h) (s:List J7i) (hl:s.length≤1000000) (hs:SgOk s):J5f set h s=some (decide (allS set * 1 < Jh3 set h s * 3)):=by
 unfold J5f
 rw [Jgz set hset h hh s hl hs,J6f,Jxx _ 1 3 (K20 set hset h s) (all_b set hset) (by omega) (by omega)]
 rfl
def Ja4 (i:Nat):List UInt8:=List.set (List.set (List.replicate 32 (0:UInt8)) 0 (77:UInt8)) 1 (UInt8.ofNat i)
theorem Jfj (i:Nat):(Ja4 i).length=32:=by simp [Ja4]
theorem Jqi (i:Nat):J49 (i:Int)=some (Ja4 i):=by
 unfold J49
 rw [J9b]
 rfl
noncomputable def Jf7 (p:Nat→Int) (i:Nat):Val:=(nm i,p i,Jko (Ja4 i),())
noncomputable def J6m (p:Nat→Int) (n:Nat):List Val:=(List.range n).map (Jf7 p)
noncomputable def Jyf (ps:List Int):List Val:=J6m (pw ps) (setN ps)
noncomputable def midS (p:Nat→Int) (n i:Nat):List Val:=(List.range n).map fun j=>if j < i then Jf7 p j else Jqo p j
theorem mid_step (p:Nat→Int) (n i:Nat) (h:i < n):List.set (midS p n i) i (((midS p n i).getD i zVal).1,((midS p n i).getD i zVal).2.1,Jko (Ja4 i),())=midS p n (i+1):=by
 have hg:(midS p n i).getD i zVal=Jqo p i:=by
  unfold midS
  rw [List.getD_eq_getElem?_getD,List.getElem?_map,List.getElem?_range h]
  simp
 rw [hg]
 unfold midS
 apply List.ext_getElem
 ·simp
 ·intro j h1 h2
  rw [List.getElem_set]
  simp only [List.getElem_map,List.getElem_range]
  by_cases e:i=j
  ·subst e; rw [if_pos rfl,if_pos (by omega)]; rfl
  ·rw [if_neg e]
   by_cases c:j < i
   ·rw [if_pos c,if_pos (by omega)]
   ·rw [if_neg c,if_neg (by omega)]
theorem Jt6 (ps:List Int):1≤setN ps∧setN ps≤4:=by unfold setN; omega
theorem K1z:∀ i,i < 4→∀ j,j < 4→nm i=nm j→i=j:=by decide
theorem K1y:∀ i,i < 4→∀ j,j < 4→i < j→J6z (nm i) (nm j)=true:=by decide
theorem Jux (p:Nat→Int) (n:Nat) (h:n≤4):Dist (J6m p n):=by
 unfold Dist J6m
 rw [List.map_map]
 rw [List.nodup_iff_pairwise_ne,List.pairwise_map]
 refine List.Pairwise.imp_of_mem (fun {a b} ha hb hab e=>hab (K1z a (by have:=List.mem_range.1 ha; omega) b (by have:=List.mem_range.1 hb; omega) e)) (List.nodup_iff_pairwise_ne.1 List.nodup_range)
theorem Jr0 (p:Nat→Int) (n:Nat) (h:n≤4) (hp:∀ i,0≤p i∧p i≤2097152):Jcb (J6m p n):=by
 refine ⟨by simp [J6m]; omega,fun v hv=>?_⟩
 obtain ⟨i,_,rfl⟩:=List.mem_map.1 hv
 exact hp i
theorem Km (set:List Val) (hd:Dist set) (h:Hdr) (h1:1≤h.1) (h2:h.1≤16) (v:Val) (hv:v ∈ set) (seed:List UInt8) (hk:v.2.2.1=Jko seed):Ju7 set h.1 (Jjt h) (sgS h v.1 seed)=true:=by
 unfold Ju7 sgS
 simp only
 rw [K32 hd hv,hk,K4v _ _ _ h1 h2,Jem]
 rfl
theorem sgS_ok (h:Hdr) (h1:1≤h.1) (h2:h.1≤16) (n seed:List UInt8):Jtp (sgS h n seed).2.1:=sig_ok seed h.1 h1 h2 _
noncomputable def sgJ (h:Hdr) (js:List Nat):List J7i:=js.map fun j=>sgS h (nm j) (Ja4 j)
def pwJ (p:Nat→Int) (js:List Nat):Int:=(js.map p).sum
theorem pwJ_b (p:Nat→Int) (hp:∀ i,0≤p i∧p i≤2097152):∀ js,0≤pwJ p js∧pwJ p js≤2097152 * js.length
 | []=>⟨Int.le_refl _,Int.le_refl _⟩
 | j::js=>by
  have:=pwJ_b p hp js
  have:=hp j
  unfold pwJ at *
  rw [List.map_cons,List.sum_cons,List.length_cons]
  omega
theorem K0c (p:Nat→Int) (js ks:List Nat):pwJ p (js++ks)=pwJ p js+pwJ p ks:=by
 unfold pwJ; rw [List.map_append,List.sum_append]
theorem Jxq (h:Hdr) (js:List Nat):nmsS (sgJ h js)=js.map nm:=by
 unfold nmsS sgJ
 rw [List.map_map]
 rfl
theorem Jx5 {js:List Nat} (h1:js.Pairwise (· < ·)) (h2:∀ j ∈ js,j < 4):incN (js.map nm)=true:=by
 refine K3a _ ?_
 rw [List.pairwise_map]
 exact List.Pairwise.imp_of_mem (fun {a b} ha hb hab=>K1y a (h2 a ha) b (h2 b hb) hab) h1
theorem sgJ_ok (h:Hdr) (h1:1≤h.1) (h2:h.1≤16) (js:List Nat):SgOk (sgJ h js):=by
 intro x hx
 obtain ⟨j,_,rfl⟩:=List.mem_map.1 hx
 exact sgS_ok h h1 h2 _ _
theorem Jye (h:Hdr) {js:List Nat} (h1:js.Pairwise (· < ·)) (h2:∀ j ∈ js,j < 4) (h3:js.length≤4):Jga (sgJ h js)=true:=by
 unfold Jga incS
 rw [Jxq,Jx5 h1 h2,Bool.true_and,decide_eq_true_eq]
 simp [sgJ]; omega
theorem Juq (q:Val→Bool) (a b:List Val):pow q (a++b)=pow q a+pow q b:=by
 unfold pow
 rw [List.filter_append,List.map_append,List.sum_append]
theorem Jmo (p:Nat→Int) (q:Val→Bool) (f:Nat→Bool):∀ n,(∀ i,i < n→q (Jf7 p i)=f i)→pow q (J6m p n)=pwJ p ((List.range n).filter f)
 | 0,_=>rfl
 | n+1,h=>by
  have e:J6m p (n+1)=J6m p n++[Jf7 p n]:=by unfold J6m; rw [List.range_succ,List.map_append]; rfl
  rw [e,Juq,Jmo p q f n fun i hi=>h i (by omega),List.range_succ,List.filter_append,K0c,K09,K3o,h n (by omega)]
  congr 1
  by_cases c:f n
  ·rw [if_pos c,List.filter_cons_of_pos c,List.filter_nil]; simp [pwJ,Jf7]
  ·rw [if_neg c,List.filter_cons_of_neg c,List.filter_nil]; rfl
theorem Jq0 {js:List Nat} {i:Nat} (h:∀ j ∈ js,j < 4) (hi:i < 4):(js.map nm).contains (nm i)=js.contains i:=by
 rw [Bool.eq_iff_iff]
 simp only [List.contains_iff_mem]
 constructor
 ·intro hm
  obtain ⟨j,hj,e⟩:=List.mem_map.1 hm
  rw [← K1z j (h j hj) i hi e]
  exact hj
 ·exact fun hm=>List.mem_map_of_mem hm
theorem Jn3 (h:Hdr) (i:Nat):sgJ h (List.range (i+1))=sgJ h (List.range i)++[sgS h (nm i) (Ja4 i)]:=by
 unfold sgJ; rw [List.range_succ,List.map_append]; rfl
theorem Jgh (h:Hdr) (js:List Nat):(sgJ h js).length=js.length:=by simp [sgJ]
abbrev Block:=Hdr×List J7i×List Val×List Val×Unit
def zBlk:Block:=(zHdr,([]:List J7i),([]:List Val),([]:List Val),())
def J6n (n:Nat):List (List UInt8):=(List.range n).map Ja4
def J6t (n:Nat):List (List (List UInt8)):=(List.range n).map fun i=>J96 (Ja4 i)
def J7v (n:Nat):List (List UInt8):=(List.range n).map nm
theorem J82 {α:Type} (f:Nat→α) (z:α) {n i:Nat} (h:i < n):((List.range n).map f).getD i z=f i:=by
 rw [List.getD_eq_getElem?_getD,List.getElem?_map,List.getElem?_range h]; rfl
theorem Jhf {α:Type} (f:Nat→α) (i:Nat):(List.range (i+1)).map f=(List.range i).map f++[f i]:=by
 rw [List.range_succ,List.map_append]; rfl
theorem J99 {α:Type} (f:Nat→α) (n:Nat):((List.range n).map f).length=n:=by simp
def setV (p:Nat→Int) (n:Nat):List Val:=(List.range n).map (Jqo p)
theorem setS_v (ps:List Int):setS ps=setV (pw ps) (setN ps):=rfl
theorem chain1 (n:Nat) (hn:n≤4) (set:List Val):Jj_1 (n:Int) 0 set []=some (set,J6n n):=by
 unfold Jj_1
 have:=J6s (step:=fun (t:Int×List (List UInt8))=>Jj_1_step (n:Int) t.1 set t.2) (fun i (_:Unit)=>((i:Int),J6n i)) (fun _ _=>()) (fun _=>(set,J6n n)) n (fun _ _=>True) (fun i w hi _=>⟨?_,trivial⟩) (fun w _=>?_) n 0 () (by omega) trivial
 ·exact this
 ·show Jj_1_step (n:Int) (i:Int) set (J6n i)=_
  unfold Jj_1_step
  have hl:(J6n i).length=i:=J99 _ _
  rw [J6j (by omega),Jqi,J6f,J6g (by rw [hl]; simp only [List.length_cons,List.length_nil]; omega),J6k (by omega) (by omega)]
  unfold J6n
  rw [Jhf]
  rfl
 ·show Jj_1_step (n:Int) (n:Int) set (J6n n)=_
  unfold Jj_1_step
  rw [J6h (by omega)]
theorem Jxo (n i:Int) (set:List Val) (seeds:List (List UInt8)) (u:Unit) (r:List (List (List UInt8))) (ns:List (List UInt8)):Jm_1_step n i set seeds u r ns =
  (fork (decide (i < n)) (need (0≤i∧i < (List.length set:Int)) (need (List.length ns+List.length ([(set.getD (Int.toNat i) zVal).1]:List (List UInt8))≤2147483648) (need (0≤i∧i < (List.length seeds:Int)) (andThen (J02 (List.getD seeds (Int.toNat i) (List.replicate 32 (0:UInt8)))) (fun u6=>need (List.length r+List.length ([u6]:List (List (List UInt8)))≤2147483648) (some (.inl ((w64 (i+(1:Int))),(r++([u6]:List (List (List UInt8)))),(ns++([(set.getD (Int.toNat i) zVal).1]:List (List UInt8))))))))))) (some (.inr (set,seeds,u,r,ns))):Option ((Int×List (List (List UInt8))×List (List UInt8))⊕((List Val)×List (List UInt8)×Unit×List (List (List UInt8))×List (List UInt8)))):=rfl
theorem Jqr (p:Nat→Int) (n:Nat) (hn:n≤4):Jm (setV p n) (J6n n)=some (setV p n,J6n n,(),J6t n,J7v n):=by
 have hl:(setV p n).length=n:=J99 _ _
 have hs:(J6n n).length=n:=J99 _ _
 have main:Jm_1 (n:Int) 0 (setV p n) (J6n n) () [] []=some (setV p n,J6n n,(),J6t n,J7v n):=by
  unfold Jm_1
  have:=J6s (step:=fun (t:Int×List (List (List UInt8))×List (List UInt8))=>Jm_1_step (n:Int) t.1 (setV p n) (J6n n) () t.2.1 t.2.2) (fun i (_:Unit)=>((i:Int),J6t i,J7v i)) (fun _ _=>()) (fun _=>(setV p n,J6n n,(),J6t n,J7v n)) n (fun _ _=>True) (fun i w hi _=>⟨?_,trivial⟩) (fun w _=>?_) n 0 () (by omega) trivial
  ·exact this
  ·show Jm_1_step (n:Int) (i:Int) (setV p n) (J6n n) () (J6t i) (J7v i)=_
   have h1:(J6t i).length=i:=J99 _ _
   have h2:(J7v i).length=i:=J99 _ _
   have g1:(setV p n).getD i zVal=Jqo p i:=J82 _ _ hi
   have g2:(J6n n).getD i (List.replicate 32 (0:UInt8))=Ja4 i:=J82 _ _ hi
   rw [Jxo,J6j (by omega),J6g (by omega),Int.toNat_natCast,g1,g2,J6g (by rw [h2]; simp only [List.length_cons,List.length_nil]; omega),J6g (by omega),K0d _ (Jfj i),J6f,J6g (by rw [h1]; simp only [List.length_cons,List.length_nil]; omega),J6k (by omega) (by omega)]
   unfold J6t J7v
   rw [Jhf,Jhf]
   rfl
  ·show Jm_1_step (n:Int) (n:Int) (setV p n) (J6n n) () (J6t n) (J7v n)=_
   rw [Jxo,J6h (by omega)]
 unfold Jm
 rw [hl,main]
 rfl
theorem Jrk (n i:Int) (set:List Val) (u:Unit) (seeds:List (List UInt8)) (r:List (List (List UInt8))) (ns:List (List UInt8)):Jj_2_step n i set u seeds r ns =
  (fork (decide (i < n)) (need (0≤i∧i < (List.length r:Int)) (andThen (J05 (List.getD r (Int.toNat i) ([]:List (List UInt8)))) (fun u15=>need (0≤i∧i < (List.length set:Int)) (some (.inl ((w64 (i+(1:Int))),(List.set set (Int.toNat i) ((set.getD (Int.toNat i) zVal).1,(set.getD (Int.toNat i) zVal).2.1,u15,())))))))) (some (.inr (u,seeds,r,ns,set))):Option ((Int×List Val)⊕(Unit×List (List UInt8)×List (List (List UInt8))×List (List UInt8)×List Val))):=rfl
theorem chain2 (p:Nat→Int) (n:Nat) (hn:n≤4):Jj_2 (n:Int) 0 (setV p n) () (J6n n) (J6t n) (J7v n)=some ((),J6n n,J6t n,J7v n,J6m p n):=by
 have hr:(J6t n).length=n:=J99 _ _
 unfold Jj_2
 have:=J6s (step:=fun (t:Int×List Val)=>Jj_2_step (n:Int) t.1 t.2 () (J6n n) (J6t n) (J7v n)) (fun i (_:Unit)=>((i:Int),midS p n i)) (fun _ _=>()) (fun _=>((),J6n n,J6t n,J7v n,J6m p n)) n (fun _ _=>True) (fun i w hi _=>⟨?_,trivial⟩) (fun w _=>?_) n 0 () (by omega) trivial
 ·rw [show setV p n=midS p n 0 from by unfold setV midS; congr 1]
  exact this
 ·show Jj_2_step (n:Int) (i:Int) (midS p n i) () (J6n n) (J6t n) (J7v n)=_
  have hm:(midS p n i).length=n:=by simp [midS]
  have g1:(J6t n).getD i []=J96 (Ja4 i):=J82 _ _ hi
  rw [Jrk,J6j (by omega),J6g (by omega),Int.toNat_natCast,g1,Jhl _ (by rw [J8n]; omega) (Je8 _),J6f,J6g (by omega),J6k (by omega) (by omega)]
  show some (Sum.inl (_,List.set (midS p n i) i (((midS p n i).getD i zVal).1,((midS p n i).getD i zVal).2.1,Jko (Ja4 i),())))=_
  rw [mid_step _ _ _ hi]
  rfl
 ·show Jj_2_step (n:Int) (n:Int) (midS p n n) () (J6n n) (J6t n) (J7v n)=_
  rw [Jrk,J6h (by omega)]
  unfold midS J6m
  congr 6
  apply List.map_congr_left
  intro j hj
  rw [if_pos (List.mem_range.1 hj)]
theorem Jrm (ps:List Int) (hp:ps.length≤140737488351232):Jj ps=some ((),J6n (setN ps),J6t (setN ps),J7v (setN ps),Jyf ps):=by
 have hn:=Jt6 ps
 have hl:(setV (pw ps) (setN ps)).length=setN ps:=J99 _ _
 unfold Jj
 rw [set_eq ps hp,J6f,setS_v,hl,chain1 _ hn.2,J6f]
 simp only
 rw [Jqr _ _ hn.2,J6f]
 simp only
 rw [hl,chain2 _ _ hn.2]
 rfl
noncomputable def Jyj:List UInt8:=sha (83::(oneS 0++J8u []))
theorem Jpc:Jyj.length=32:=J86 _
theorem Jn6:J28 []=some Jyj:=by
 have h1:J0i []=some []:=by
  unfold J0i J0i_1
  rw [J71 (r:=[]) rfl]; rfl
 have h2:=Jhl [] (by simp) (fun x hx=>nomatch hx)
 have h3:[oneS 0,J8u []].flatten=oneS 0++J8u []:=by simp
 have h4:(J8u []).length≤1000000:=by rw [J85]; omega
 have h5:=J7y 0
 unfold J28
 rw [h1,J6f,h2,J6f]
 unfold J4m
 rw [show ((([]:List (List UInt8×List UInt8×Unit)).length:Int))=0 from rfl,Jgd,J6f,J7w _ _ (by rw [h3,List.length_append]; omega) (by simp),h3]
 rfl
def lastB (B:List Block):Block:=B.getD (B.length - 1) zBlk
noncomputable def hdS (S:List Val) (B:List Block) (t:Int):Hdr:=
 if B.length=0 then (1,t,Jyj,setH S,setH S,List.replicate 32 0,())
 else ((B.length:Int)+1,t,Jyj,setH (lastB B).2.2.2.1,setH S,sha (72::Jfu (lastB B).1),())
theorem Ju9 (S:List Val) (B:List Block) (t:Int):J8v (hdS S B t):=by
 unfold hdS
 split
 ·exact ⟨Jpc,J8r _,J8r _,by simp⟩
 ·exact ⟨Jpc,J8r _,J8r _,J86 _⟩
theorem hdS_1 (S:List Val) (B:List Block) (t:Int):(hdS S B t).1=(B.length:Int)+1:=by
 unfold hdS; split
 ·show (1:Int)=_; omega
 ·rfl
theorem hdS_t (S:List Val) (B:List Block) (t:Int):(hdS S B t).2.1=t:=by unfold hdS; split <;> rfl
def nowS (S:List Val) (B:List Block):List Val:=if B.length=0 then S else (lastB B).2.2.2.1
theorem Jx3 {S:List Val} {B:List Block} {t:Int} (hb:B.length < 16) (h1:0≤t) (h2:t≤1073741824):J8j (hdS S B t)=true:=by
 rw [Jc5,hdS_1,hdS_t]; omega
noncomputable def blkS (n:Nat) (S:List Val) (B:List Block) (t:Int):Block:=(hdS S B t,sgJ (hdS S B t) (List.range n),nowS S B,S,())
theorem Jz8 {h:Hdr} (hr:J8j h=true):Jjt h=sha (72::Jfu h):=by
 unfold Jjt Jcc; rw [if_pos hr]
abbrev Rows:=List (List (List UInt8×List UInt8×Unit))
theorem Jud (B:List Block) (b:Block):lastB (B++[b])=b:=by
 unfold lastB
 rw [List.length_append,List.getD_eq_getElem?_getD,List.getElem?_append_right (by simp)]
 simp
theorem Jmv (p:Nat→Int) (n:Nat) (h:n≤4):Jpv (J6m p n):=by
 refine ⟨by simp [J6m]; omega,fun v hv=>?_⟩
 obtain ⟨i,hi,rfl⟩:=List.mem_map.1 hv
 have hi:=List.mem_range.1 hi
 have:∀ i,i < 4→(nm i).length≤100000:=by decide
 exact ⟨this i (by omega),J85 _⟩
abbrev eqH (x y:List UInt8):Bool:=Ty.beq (.arr 32 (.int .u8)) x y
abbrev Cli:=List Hdr×List Val×Int×Bool×Unit
def Jtn (l:List Val):Prop:=∀ v ∈ l,v.2.2.1.length=32
def K2g (b:Block):Prop:=J8v b.1∧SgOk b.2.1∧b.2.1.length≤1000000∧Jtn b.2.2.1∧Jtn b.2.2.2.1∧b.2.2.1.length≤1000000∧b.2.2.2.1.length≤1000000
theorem Jjh {l:List Val} (h:Jax l=true):Jcb l∧l.length≤5∧1≤l.length∧∀ v ∈ l,v.1.length≤16:=by
 unfold Jax at h
 simp only [Bool.and_eq_true,decide_eq_true_eq] at h
 obtain ⟨h1,h2,h3⟩:=h
 have key:∀ v ∈ l,mayS v=true:=by
  intro v hv
  obtain ⟨i,hi,rfl⟩:=List.getElem_of_mem hv
  have:=List.all_eq_true.1 h1 i (List.mem_range.2 hi)
  unfold okAt at this
  rw [Bool.and_eq_true] at this
  rw [List.getD_eq_getElem?_getD,List.getElem?_eq_getElem hi] at this
  exact this.1
 have key2:∀ v ∈ l,v.1.length≤16∧1≤v.2.1∧v.2.1≤1048576:=by
  intro v hv
  have:=key v hv
  unfold mayS at this
  simp only [Bool.and_eq_true,decide_eq_true_eq] at this
  omega
 exact ⟨⟨by omega,fun v hv=>by have:=key2 v hv; omega⟩,h3,h2,fun v hv=>(key2 v hv).1⟩
theorem Jmu {l:List Val} (h:Jax l=true) (hk:Jtn l):Jpv l:=by
 obtain ⟨_,h2,_,h4⟩:=Jjh h
 exact ⟨by omega,fun v hv=>⟨by have:=h4 v hv; omega,hk v hv⟩⟩
def Jjx (b:Block):Bool:=J8j b.1 && (Jax b.2.2.1 && (Jax b.2.2.2.1 && (decide (b.2.1.length≤5) && (eqH (setH b.2.2.1) b.1.2.2.2.1 && eqH (setH b.2.2.2.1) b.1.2.2.2.2.1))))
theorem K19 (b:Block) (hb:K2g b):J5l b=some (Jjx b):=by
 obtain ⟨b1,b2,b3,b4,b5,b6,b7⟩:=hb
 unfold J5l Jjx
 rw [Jd1,J6f]
 cases c1:J8j b.1 with
 | false=>rfl
 | true=>
  rw [J7m,right_eq _ (by omega),J6f]
  cases c2:Jax b.2.2.1 with
  | false=>rfl
  | true=>
   rw [J7m,right_eq _ (by omega),J6f]
   cases c3:Jax b.2.2.2.1 with
   | false=>rfl
   | true=>
    rw [J7m]
    by_cases c4:b.2.1.length≤5
    ·rw [J6j (by omega),J9k _ (Jmu c2 b4),J6f,decide_eq_true c4]
     cases c5:Ty.beq (.arr 32 (.int .u8)) (setH b.2.2.1) b.1.2.2.2.1 with
     | false=>rw [show eqH (setH b.2.2.1) b.1.2.2.2.1=false from c5]; rfl
     | true=>rw [show eqH (setH b.2.2.1) b.1.2.2.2.1=true from c5,J7m,J9k _ (Jmu c3 b5),J6f]; rfl
    ·rw [J6h (by omega),decide_eq_false c4]; rfl
def lastH (c:Cli):Hdr:=c.1.getD (c.1.length - 1) zHdr
theorem Jqk (c:Cli):J1j c=need (0≤(w64 ((List.length c.1:Int) - (1:Int)))∧(w64 ((List.length c.1:Int) - (1:Int))) < (List.length c.1:Int)) (some (List.getD c.1 (Int.toNat (w64 ((List.length c.1:Int) - (1:Int)))) zHdr)):=rfl
theorem Jok (c:Cli) (h1:1≤c.1.length) (h2:c.1.length≤1000000):J1j c=some (lastH c):=by
 rw [Jqk,J6k (by omega) (by omega),J6g (by omega)]
 unfold lastH
 congr 2
 omega
def K2h (c:Cli):Prop:=1≤c.1.length∧c.1.length≤1000000∧Jcb c.2.1∧(0≤(lastH c).1∧(lastH c).1≤1099511627776)∧(0≤(lastH c).2.1∧(lastH c).2.1≤1099511627776)
theorem Jki (now:Int) (c:Cli) (hc:K2h c) (hn:-1099511627776≤now∧now≤1099511627776):J0h now c=some (decide (c.2.2.1 < now - (lastH c).2.1)):=by
 obtain ⟨h1,h2,_,_,h5⟩:=hc
 unfold J0h
 rw [Jok c h1 h2,J6f,J6k (by omega) (by omega)]
theorem Jeq (l:List Val) (h:l.length≤2147483648):Ja l=some l:=by unfold Ja; rw [J6g h]
theorem Ji0 (l:List Hdr) (h:l.length≤2147483648):J01 l=some l:=by unfold J01; rw [J6g h]
def enS (set:List Val) (h:Hdr) (s:List J7i):Bool:=decide (allS set * 2 < Jh3 set h s * 3)
def soS (set:List Val) (h:Hdr) (s:List J7i):Bool:=decide (allS set * 1 < Jh3 set h s * 3)
def cut6 (l:List Hdr):List Hdr:=if 6 < l.length then l.drop 1 else l
def updS (b:Block) (now:Int) (c:Cli):Int×Cli:=
 if c.2.2.2.1=true then (5,c) else if Jjx b=false then (1,c) else if b.1.1≤(lastH c).1 then (8,c) else if b.1.2.1≤(lastH c).2.1 then (1,c)
 else if c.2.2.1 < now - (lastH c).2.1 then (6,c) else if now < b.1.2.1 then (6,c)
 else if b.1.1=(lastH c).1+1∧eqH b.1.2.2.2.1 (lastH c).2.2.2.2.1=false then (9,c) else if enS b.2.2.1 b.1 b.2.1=false then (9,c)
 else if b.1.1≠(lastH c).1+1∧soS c.2.1 b.1 b.2.1=false then (9,c)
 else (0,(cut6 (c.1++[b.1]),b.2.2.2.1,c.2.2.1,c.2.2.2.1,()))
theorem K4p (b:Block) (c:Cli) (hc:c.1.length≤1000000) (hb:b.2.2.2.1.length≤1000000):(andThen (J01 c.1) (fun u22=>need (List.length u22+List.length ([b.1]:List Hdr)≤2147483648) (fork (decide ((6:Int) < (List.length (u22++([b.1]:List Hdr)):Int))) (need (0≤(1:Int)∧(1:Int)≤(List.length (u22++([b.1]:List Hdr)):Int)∧(List.length (u22++([b.1]:List Hdr)):Int)≤(List.length (u22++([b.1]:List Hdr)):Int)) (andThen (Ja b.2.2.2.1) (fun u27=>some ((0:Int),((cutL (u22++([b.1]:List Hdr)) (1:Int) (List.length (u22++([b.1]:List Hdr)):Int)),u27,c.2.2.1,c.2.2.2.1,()))))) (andThen (Ja b.2.2.2.1) (fun u29=>some ((0:Int),((u22++([b.1]:List Hdr)),u29,c.2.2.1,c.2.2.2.1,())))))):Option (Int×Cli)) =
  some (0,(cut6 (c.1++[b.1]),b.2.2.2.1,c.2.2.1,c.2.2.2.1,())):=by
 have hl:(c.1++[b.1]).length=c.1.length+1:=by simp
 have h1:([b.1]:List Hdr).length=1:=rfl
 rw [Ji0 _ (by omega),J6f,J6g (by omega)]
 unfold cut6
 by_cases h:(6:Int) < ((c.1++[b.1]).length:Int)
 ·rw [J6j h,J6g (by omega),Jeq _ (by omega),J6f,if_pos (by omega),J94]
  rfl
 ·rw [J6h h,Jeq _ (by omega),J6f,if_neg (by omega)]
theorem upd_eq (b:Block) (now:Int) (c:Cli) (hb:K2g b) (hc:K2h c) (hn:-1099511627776≤now∧now≤1099511627776):J26 b now c=some (updS b now c):=by
 have hex:=Jki now c hc hn
 obtain ⟨c1,c2,c3,c4,c5⟩:=hc
 have hw:=K19 b hb
 obtain ⟨b1,b2,b3,b4,b5,b6,b7⟩:=hb
 have wl:w64 ((lastH c).1+1)=(lastH c).1+1:=J6k (by omega) (by omega)
 have htail:=K4p b c (by omega) (by omega)
 unfold J26 updS
 rw [Jok c c1 c2,J6f]
 by_cases q1:c.2.2.2.1=true
 ·rw [q1,J7m,if_pos rfl]
 rw [if_neg q1]
 have q1:c.2.2.2.1=false:=by simpa using q1
 rw [q1] at htail ⊢
 rw [J6r,hw,J6f]
 cases q2:Jjx b with
 | false=>rw [if_pos rfl]; rfl
 | true=>
  rw [if_neg (by simp),Bool.not_true,J6r]
  have hset:Jcb b.2.2.1:=by
   unfold Jjx at q2
   simp only [Bool.and_eq_true] at q2
   exact (Jjh q2.2.1).1
  by_cases q3:b.1.1≤(lastH c).1
  ·rw [J6j q3,if_pos q3]
  rw [J6h q3,if_neg q3]
  by_cases q4:b.1.2.1≤(lastH c).2.1
  ·rw [J6j q4,if_pos q4]
  rw [J6h q4,if_neg q4,hex,J6f]
  by_cases q5:c.2.2.1 < now - (lastH c).2.1
  ·rw [J6j q5,if_pos q5]
  rw [J6h q5,if_neg q5]
  by_cases q6:now < b.1.2.1
  ·rw [J6j q6,if_pos q6]
  rw [J6h q6,if_neg q6,wl]
  have en:=Jwf b.2.2.1 hset b.1 b1 b.2.1 b3 b2
  have so:=K4l c.2.1 c3 b.1 b1 b.2.1 b3 b2
  rw [show decide (allS b.2.2.1 * 2 < Jh3 b.2.2.1 b.1 b.2.1 * 3)=enS b.2.2.1 b.1 b.2.1 from rfl] at en
  rw [show decide (allS c.2.1 * 1 < Jh3 c.2.1 b.1 b.2.1 * 3)=soS c.2.1 b.1 b.2.1 from rfl] at so
  by_cases q7:b.1.1=(lastH c).1+1
  ·rw [J6j q7]
   cases q8:Ty.beq (.arr 32 (.int .u8)) b.1.2.2.2.1 (lastH c).2.2.2.2.1 with
   | false=>rw [if_pos ⟨q7,q8⟩]; rfl
   | true=>
    rw [if_neg (by rw [show eqH b.1.2.2.2.1 (lastH c).2.2.2.2.1=true from q8]; simp),Bool.not_true,J6r,en,J6f]
    cases q9:enS b.2.2.1 b.1 b.2.1 with
    | false=>rw [if_pos rfl]; rfl
    | true=>
     rw [if_neg (by simp),Bool.not_true,J6r,J9v q7,if_neg (fun h=>h.1 q7)]
     exact htail
  ·rw [J6h q7,if_neg (fun h=>q7 h.1),en,J6f]
   cases q9:enS b.2.2.1 b.1 b.2.1 with
   | false=>rw [if_pos rfl]; rfl
   | true=>
    rw [if_neg (by simp),Bool.not_true,J6r,Jbv q7,so,J6f]
    cases q10:soS c.2.1 b.1 b.2.1 with
    | false=>rw [if_pos ⟨q7,rfl⟩]; rfl
    | true=>
     rw [if_neg (by simp),Bool.not_true,J6r]
     exact htail
def newS (h:Hdr) (next:List Val) (p:Int):Int⊕(Int×Cli):=
 if J8j h=true∧Jax next=true∧eqH h.2.2.2.2.1 (setH next)=true∧(0≤p∧p≤1073741824) then .inr (0,([h],next,p,false,())) else .inl 1
theorem new_eq (h:Hdr) (next:List Val) (p:Int) (hk:Jtn next) (hl:next.length≤1000000):J5d h next p=some (newS h next p):=by
 unfold J5d newS
 rw [Jd1,J6f]
 cases q1:J8j h with
 | false=>rw [if_neg (by simp)]; rfl
 | true=>
  rw [Bool.not_true,J6r,right_eq _ (by omega),J6f]
  cases q2:Jax next with
  | false=>rw [if_neg (by simp)]; rfl
  | true=>
   rw [Bool.not_true,J6r,J9k _ (Jmu q2 hk),J6f]
   cases q3:Ty.beq (.arr 32 (.int .u8)) h.2.2.2.2.1 (setH next) with
   | false=>rw [if_neg (by rw [show eqH h.2.2.2.2.1 (setH next)=false from q3]; simp)]; rfl
   | true=>
    rw [Bool.not_true,J6r]
    unfold J5p
    by_cases q4:0≤p
    ·rw [J6j q4,J6f]
     by_cases q5:p≤1073741824
     ·rw [decide_eq_true q5,Bool.not_true,J6r,Jeq _ (by omega),if_pos ⟨rfl,rfl,q3,q4,q5⟩]
      rfl
     ·rw [decide_eq_false q5,if_neg (by omega)]; rfl
    ·rw [J6h q4,J6f,if_neg (by omega)]; rfl
theorem Juj (p:Nat→Int) {n:Nat} (hn:n≤4) (h:Hdr) (h1:1≤h.1) (h2:h.1≤16) {js:List Nat} (q1:js.Pairwise (· < ·)) (q2:∀ j ∈ js,j < n) (q3:js.length≤4):Jgw (J6m p n) h (sgJ h js)=js.map nm:=by
 unfold Jgw Jce
 rw [if_pos (Jye h q1 (fun j hj=>by have:=q2 j hj; omega) q3),List.filter_eq_self.2,← Jxq h js]
 ·rfl
 ·intro x hx
  obtain ⟨j,hj,rfl⟩:=List.mem_map.1 hx
  exact Km _ (Jux p n hn) h h1 h2 (Jf7 p j) (List.mem_map_of_mem (List.mem_range.2 (q2 j hj))) (Ja4 j) rfl
theorem Kj (g:Nat→Bool) (n:Nat):((List.range n).filter g).Pairwise (· < ·):=List.Pairwise.filter _ List.pairwise_lt_range
theorem Jwr {g:Nat→Bool} {n j:Nat} (h:j ∈ (List.range n).filter g):j < n:=List.mem_range.1 (List.mem_filter.1 h).1
theorem Jm6 (g:Nat→Bool) (n:Nat):((List.range n).filter g).length≤n:=by
 have:=List.length_filter_le g (List.range n)
 rwa [List.length_range] at this
theorem Jp1 (p:Nat→Int) {n:Nat} (hn:n≤4) (h:Hdr) (h1:1≤h.1) (h2:h.1≤16) (g:Nat→Bool):Jh3 (J6m p n) h (sgJ h ((List.range n).filter g))=pwJ p ((List.range n).filter g):=by
 have hl:=Jm6 g n
 unfold Jh3
 rw [Juj p hn h h1 h2 (Kj g n) (fun j hj=>Jwr hj) (by omega)]
 refine Jmo p _ g n fun i hi=>?_
 show (((List.range n).filter g).map nm).contains (nm i)=g i
 rw [Jq0 (fun j hj=>by have:=Jwr hj; omega) (by omega),Bool.eq_iff_iff]
 simp only [List.contains_iff_mem,List.mem_filter,List.mem_range]
 exact ⟨fun x=>x.2,fun x=>⟨hi,x⟩⟩
theorem Jm5 (n:Nat):(List.range n).filter (fun _=>true)=List.range n:=List.filter_eq_self.2 fun _ _=>rfl
theorem Jni (p:Nat→Int) (n:Nat):allS (J6m p n)=pwJ p (List.range n):=by
 unfold allS
 rw [Jmo p (fun _=>true) (fun _=>true) n (fun _ _=>rfl),Jm5]
def PwOk (p:Nat→Int):Prop:=∀ i,1≤p i∧p i≤1000000
theorem K3r (ps:List Int):PwOk (pw ps):=fun i=>by have:=pw_b ps i; omega
theorem PwOk.s {p:Nat→Int} (h:PwOk p):∀ i,0≤p i∧p i≤2097152:=fun i=>by have:=h i; omega
theorem K3q {p:Nat→Int} (h:PwOk p):∀ js:List Nat,js≠[]→1≤pwJ p js
 | [],e=>absurd rfl e
 | j::js,_=>by
  have:=h j
  have:=pwJ_b p h.s js
  unfold pwJ at *
  rw [List.map_cons,List.sum_cons]; omega
theorem K0e {n:Nat} (h:1≤n):List.range n≠[]:=fun e=>by have:=congrArg List.length e; simp at this; omega
theorem Jc6 {p:Nat→Int} (hp:PwOk p) {n:Nat} (h1:1≤n) (hn:n≤4):Jax (J6m p n)=true:=by
 have hl:(J6m p n).length=n:=by simp [J6m]
 have hg:∀ i,i < n→(J6m p n).getD i zVal=Jf7 p i:=fun i hi=>J82 _ _ hi
 have h2:∀ i,i < 4→nm i≠[]∧(nm i).length≤16:=by decide
 unfold Jax
 rw [hl]
 simp only [Bool.and_eq_true,decide_eq_true_eq]
 refine ⟨List.all_eq_true.2 fun i hi=>?_,by omega,by omega⟩
 have hi:=List.mem_range.1 hi
 obtain ⟨a,b⟩:=h2 i (by omega)
 have:=hp i
 unfold okAt mayS
 rw [hg i hi]
 simp only [Bool.and_eq_true,Bool.or_eq_true,Bool.not_eq_true',decide_eq_true_eq,decide_eq_false_iff_not,beq_iff_eq]
 refine ⟨⟨a,?_,this.1,?_⟩,?_⟩
 ·show ((nm i).length:Int)≤16; omega
 ·show p i≤1048576; omega
 ·by_cases c:i=0
  ·exact .inl c
  ·right
   rw [hg (i - 1) (by omega)]
   exact K1y (i - 1) (by omega) i (by omega) (by omega)
theorem Jjj (p:Nat→Int) (n:Nat):Jtn (J6m p n):=by
 intro v hv
 obtain ⟨i,hi,rfl⟩:=List.mem_map.1 hv
 exact J85 _
theorem Jpb {p:Nat→Int} (hp:PwOk p) {n:Nat} (hn:n≤4):Jcb (J6m p n):=Jr0 p n hn hp.s
noncomputable def blF (n:Nat) (S:List Val) (f:Nat→Int):Nat→List Block
 | 0=>[]
 | k+1=>blF n S f k++[blkS n S (blF n S f k) (f k)]
noncomputable def hF (n:Nat) (S:List Val) (f:Nat→Int) (j:Nat):Hdr:=hdS S (blF n S f j) (f j)
def Rise (f:Nat→Int):Prop:=(∀ i,i < 16→0≤f i∧f i≤1000000000)∧∀ i,i+1 < 16→f i < f (i+1)
theorem Rise.lt {f:Nat→Int} (h:Rise f) {i:Nat}:∀ {j:Nat},i < j→j < 16→f i < f j
 | j+1,hij,hj=>by
  have:=h.2 j hj
  rcases Nat.lt_or_ge i j with c | c
  ·have:=h.lt c (by omega); omega
  ·have:i=j:=by omega
   subst this; omega
def Knows (S:List Val) (P:Int) (h:Hdr) (c:Cli):Prop:=1≤c.1.length∧c.1.length≤1000∧lastH c=h∧c.2.1=S∧c.2.2.1=P∧c.2.2.2.1=false
theorem Jkq (l:List Hdr) (h:Hdr) (x:List Val×Int×Bool×Unit):lastH (l++[h],x)=h:=by
 unfold lastH
 simp only
 rw [List.length_append,List.getD_eq_getElem?_getD,List.getElem?_append_right (by simp)]
 simp
theorem Jxc (l:List Hdr) (h:Hdr) (x:List Val×Int×Bool×Unit) (hl:1≤l.length):lastH (cut6 (l++[h]),x)=h:=by
 unfold cut6
 split
 ·rw [List.drop_append_of_le_length hl]
  exact Jkq _ _ _
 ·exact Jkq _ _ _
noncomputable def hdR (r:List UInt8) (S:List Val) (B:List Block) (t:Int):Hdr:=
 if B.length=0 then (1,t,r,setH S,setH S,List.replicate 32 0,())
 else ((B.length:Int)+1,t,r,setH (lastB B).2.2.2.1,setH S,sha (72::Jfu (lastB B).1),())
theorem Ju8 {r:List UInt8} (hr32:r.length=32) (S:List Val) (B:List Block) (t:Int):J8v (hdR r S B t):=by
 unfold hdR
 split
 ·exact ⟨hr32,J8r _,J8r _,by simp⟩
 ·exact ⟨hr32,J8r _,J8r _,J86 _⟩
theorem hdR_1 (r:List UInt8) (S:List Val) (B:List Block) (t:Int):(hdR r S B t).1=(B.length:Int)+1:=by
 unfold hdR; split
 ·show (1:Int)=_; omega
 ·rfl
theorem hdR_t (r:List UInt8) (S:List Val) (B:List Block) (t:Int):(hdR r S B t).2.1=t:=by unfold hdR; split <;> rfl
theorem Ko (r:List UInt8) (S:List Val) (B:List Block) (t:Int):(hdR r S B t).2.2.2.2.1=setH S:=by unfold hdR; split <;> rfl
theorem Kq (r:List UInt8) (S:List Val) (B:List Block) (t:Int):(hdR r S B t).2.2.2.1=setH (nowS S B):=by unfold hdR nowS; split <;> rfl
theorem Jx2 {r:List UInt8} {S:List Val} {B:List Block} {t:Int} (hb:B.length < 16) (h1:0≤t) (h2:t≤1073741824):J8j (hdR r S B t)=true:=by
 rw [Jc5,hdR_1,hdR_t]; omega
noncomputable def blkR (n:Nat) (r:List UInt8) (S:List Val) (B:List Block) (t:Int):Block:=(hdR r S B t,sgJ (hdR r S B t) (List.range n),nowS S B,S,())
noncomputable def blG (n:Nat) (r:Nat→List UInt8) (S:Nat→List Val) (f:Nat→Int):Nat→List Block
 | 0=>[]
 | k+1=>blG n r S f k++[blkR n (r k) (S k) (blG n r S f k) (f k)]
noncomputable def hG (n:Nat) (r:Nat→List UInt8) (S:Nat→List Val) (f:Nat→Int) (j:Nat):Hdr:=hdR (r j) (S j) (blG n r S f j) (f j)
def preS (S:Nat→List Val) (j:Nat):List Val:=if j=0 then S 0 else S (j - 1)
noncomputable def genB (n:Nat) (r:Nat→List UInt8) (S:Nat→List Val) (f:Nat→Int) (j:Nat):Block:=(hG n r S f j,sgJ (hG n r S f j) (List.range n),preS S j,S j,())
theorem Jbp (n:Nat) (r:Nat→List UInt8) (S:Nat→List Val) (f:Nat→Int):∀ k,(blG n r S f k).length=k
 | 0=>rfl
 | k+1=>by rw [blG,List.length_append,Jbp n r S f k]; rfl
theorem nowG (n:Nat) (r:Nat→List UInt8) (S:Nat→List Val) (f:Nat→Int):∀ k,nowS (S k) (blG n r S f k)=preS S k
 | 0=>rfl
 | k+1=>by
  unfold nowS preS
  rw [Jbp,if_neg (by omega),if_neg (by omega),blG,Jud]
  rfl
theorem Jvt (n:Nat) (r:Nat→List UInt8) (S:Nat→List Val) (f:Nat→Int):∀ {k j:Nat},j < k→(blG n r S f k).getD j zBlk=genB n r S f j
 | k+1,j,h=>by
  rw [blG]
  rcases Nat.lt_or_ge j k with c | c
  ·rw [List.getD_eq_getElem?_getD,List.getElem?_append_left (by rw [Jbp]; exact c),← List.getD_eq_getElem?_getD]
   exact Jvt n r S f c
  ·have:j=k:=by omega
   subst this
   rw [List.getD_eq_getElem?_getD,List.getElem?_append_right (by rw [Jbp]; omega),Jbp]
   simp only [Nat.sub_self,List.getElem?_cons_zero,Option.getD_some]
   unfold blkR
   rw [nowG]
   rfl
theorem Jnm (n:Nat) {r r':Nat→List UInt8} {S S':Nat→List Val} {f f':Nat→Int}:∀ k,(∀ j,j < k→r j=r' j∧S j=S' j∧f j=f' j)→blG n r S f k=blG n r' S' f' k
 | 0,_=>rfl
 | k+1,h=>by
  obtain ⟨a,b,c⟩:=h k (Nat.lt_succ_self k)
  rw [blG,blG,Jnm n k (fun j hj=>h j (by omega)),a,b,c]
theorem hG_1 (n:Nat) (r:Nat→List UInt8) (S:Nat→List Val) (f:Nat→Int) (j:Nat):(hG n r S f j).1=(j:Int)+1:=by unfold hG; rw [hdR_1,Jbp]
theorem hG_t (n:Nat) (r:Nat→List UInt8) (S:Nat→List Val) (f:Nat→Int) (j:Nat):(hG n r S f j).2.1=f j:=hdR_t _ _ _ _
theorem K37 (n:Nat) (r:Nat→List UInt8) (S:Nat→List Val) (f:Nat→Int) (j:Nat):(hG n r S f j).2.2.1=r j:=by unfold hG hdR; split <;> rfl
theorem Jqh (n:Nat) (r:Nat→List UInt8) (S:Nat→List Val) (f:Nat→Int) (j:Nat):(hG n r S f j).2.2.2.2.1=setH (S j):=Ko _ _ _ _
theorem Jwz (n:Nat) (r:Nat→List UInt8) (S:Nat→List Val) (f:Nat→Int) (j:Nat):(hG n r S f j).2.2.2.1=setH (preS S j):=by unfold hG; rw [Kq,nowG]
theorem Jo9 (n:Nat) {r:Nat→List UInt8} (S:Nat→List Val) (f:Nat→Int) {j:Nat} (hr:(r j).length=32):J8v (hG n r S f j):=Ju8 hr _ _ _
theorem Jm8 {n:Nat} {r:Nat→List UInt8} {S:Nat→List Val} {f:Nat→Int} {j:Nat} (hj:j < 16) (h1:0≤f j) (h2:f j≤1073741824):J8j (hG n r S f j)=true:=Jx2 (by rw [Jbp]; exact hj) h1 h2
theorem K00 (n:Nat) (r:Nat→List UInt8) (S:Nat→List Val) (f:Nat→Int) (k:Nat):lastB (blG n r S f (k+1))=genB n r S f k:=by
 unfold lastB
 rw [Jbp]
 exact Jvt n r S f (by omega)
theorem preR (P:Nat→Nat→Int) (n j:Nat):preS (fun k=>J6m (P k) n) j=J6m (if j=0 then P 0 else P (j - 1)) n:=by
 unfold preS; split <;> rfl
def Jhq (m:Nat) (f:Nat→Int):Prop:=(∀ i,i < m→0≤f i∧f i≤1000000000)∧∀ i,i+1 < m→f i < f (i+1)
theorem Jhq.lt {m:Nat} {f:Nat→Int} (h:Jhq m f) {i:Nat}:∀ {j:Nat},i < j→j < m→f i < f j
 | j+1,hij,hj=>by
  have:=h.2 j hj
  rcases Nat.lt_or_ge i j with c | c
  ·have:=h.lt c (by omega); omega
  ·have:i=j:=by omega
   subst this; omega
noncomputable def sgB (n:Nat) (r:Nat→List UInt8) (P:Nat→Nat→Int) (f:Nat→Int) (j:Nat) (g:Nat→Bool):Block:=(hG n r (fun k=>J6m (P k) n) f j,sgJ (hG n r (fun k=>J6m (P k) n) f j) ((List.range n).filter g),preS (fun k=>J6m (P k) n) j,J6m (P j) n,())
def pB (P:Nat→Nat→Int) (j:Nat):Nat→Int:=if j=0 then P 0 else P (j - 1)
theorem pB_ok {P:Nat→Nat→Int} (hP:∀ j,PwOk (P j)) (j:Nat):PwOk (pB P j):=by
 unfold pB; split <;> exact hP _
theorem sgB_ok {n:Nat} (hn:n≤4) {r:Nat→List UInt8} (P:Nat→Nat→Int) (f:Nat→Int) {j:Nat} (hj:j < 16) (hr:(r j).length=32) (g:Nat→Bool):K2g (sgB n r P f j g):=by
 have hl:∀ p,(J6m p n).length=n:=fun p=>by simp [J6m]
 have h1:=hG_1 n r (fun k=>J6m (P k) n) f j
 refine ⟨Jo9 n _ f hr,sgJ_ok _ (by omega) (by omega) _,?_,?_,Jjj _ n,?_,?_⟩
 ·show (sgJ _ _).length≤1000000
  have:=Jm6 g n
  rw [Jgh]; omega
 ·show Jtn (preS (fun k=>J6m (P k) n) j)
  rw [preR]; exact Jjj _ n
 ·show (preS (fun k=>J6m (P k) n) j).length≤1000000
  rw [preR,hl]; omega
 ·show (J6m (P j) n).length≤1000000
  rw [hl]; omega
theorem Jze {n:Nat} (h1:1≤n) (hn:n≤4) {r:Nat→List UInt8} {P:Nat→Nat→Int} (hP:∀ j,PwOk (P j)) {f:Nat→Int} {j:Nat} (hj:j < 16) (q1:0≤f j) (q2:f j≤1073741824) (g:Nat→Bool):Jjx (sgB n r P f j g)=true:=by
 have hfl:=Jm6 g n
 unfold Jjx sgB
 dsimp only
 rw [Jm8 hj q1 q2,preR,Jc6 (show PwOk (if j=0 then P 0 else P (j - 1)) from pB_ok hP j) h1 hn,Jc6 (hP j) h1 hn,Jwz,preR,Jqh]
 show (true && (true && (true && (decide ((sgJ _ _).length≤5) && (eqH (setH _) (setH _) && eqH (setH _) (setH _))))))=true
 rw [decide_eq_true (by rw [Jgh]; omega),show ∀ s,eqH (setH s) (setH s)=true from fun s=>Jem _,show ∀ s,eqH (setH s) (setH s)=true from fun s=>Jem _]
 rfl
theorem K4u {n:Nat} (h1:1≤n) (hn:n≤4) {r:Nat→List UInt8} {P:Nat→Nat→Int} (hP:∀ j,PwOk (P j)) {m:Nat} (hm:m≤16) {f:Nat→Int} (hf:Jhq m f) {i j:Nat} (hij:i < j) (hj:j < m) {T:Int} {c:Cli}
  (hc:Knows (J6m (P i) n) T (hG n r (fun k=>J6m (P k) n) f i) c) (now:Int) (g:Nat→Bool) (q2:¬ T < now - f i) (q3:¬ now < f j) :
  updS (sgB n r P f j g) now c=if ¬ pwJ (pB P j) (List.range n) * 2 < pwJ (pB P j) ((List.range n).filter g) * 3 then (9,c) else if j≠i+1∧¬ pwJ (P i) (List.range n) * 1 < pwJ (P i) ((List.range n).filter g) * 3 then (9,c) else (0,(cut6 (c.1++[hG n r (fun k=>J6m (P k) n) f j]),J6m (P j) n,T,false,())):=by
 obtain ⟨c1,c2,c3,c4,c5,c6⟩:=hc
 have fj:=hf.1 j hj
 have fi:=hf.1 i (by omega)
 have hlt:=hf.lt hij hj
 have e1:=hG_1 n r (fun k=>J6m (P k) n) f j
 have e2:=hG_1 n r (fun k=>J6m (P k) n) f i
 have ea:∀ p,enS (J6m p n) (hG n r (fun k=>J6m (P k) n) f j) (sgJ (hG n r (fun k=>J6m (P k) n) f j) ((List.range n).filter g))=decide (pwJ p (List.range n) * 2 < pwJ p ((List.range n).filter g) * 3):=fun p=>by
  unfold enS
  rw [Jp1 p hn _ (by omega) (by omega),Jni]
 have es:∀ p,soS (J6m p n) (hG n r (fun k=>J6m (P k) n) f j) (sgJ (hG n r (fun k=>J6m (P k) n) f j) ((List.range n).filter g))=decide (pwJ p (List.range n) * 1 < pwJ p ((List.range n).filter g) * 3):=fun p=>by
  unfold soS
  rw [Jp1 p hn _ (by omega) (by omega),Jni]
 unfold updS
 rw [if_neg (by rw [c6]; simp),Jze h1 hn hP (by omega) fj.1 (by omega) g,if_neg (by simp),c3,e2,hG_t,Jqh]
 show (if (hG n r (fun k=>J6m (P k) n) f j).1≤_ then _ else if (hG n r (fun k=>J6m (P k) n) f j).2.1≤_ then _ else _)=_
 rw [e1,hG_t,if_neg (by omega),if_neg (by omega),c5,if_neg q2]
 show (if now < (hG n r (fun k=>J6m (P k) n) f j).2.1 then _ else if (hG n r (fun k=>J6m (P k) n) f j).1=_∧eqH (hG n r (fun k=>J6m (P k) n) f j).2.2.2.1 _=false then _ else if enS (preS (fun k=>J6m (P k) n) j) (hG n r (fun k=>J6m (P k) n) f j) (sgJ (hG n r (fun k=>J6m (P k) n) f j) ((List.range n).filter g))=false then _ else if (hG n r (fun k=>J6m (P k) n) f j).1≠_∧soS c.2.1 (hG n r (fun k=>J6m (P k) n) f j) (sgJ (hG n r (fun k=>J6m (P k) n) f j) ((List.range n).filter g))=false then _ else (0,(cut6 (c.1++[hG n r (fun k=>J6m (P k) n) f j]),J6m (P j) n,T,c.2.2.2.1,())))=_
 rw [hG_t,if_neg q3,Jwz,e1,preR,ea,c4,es,c6]
 have hv:¬ ((j:Int)+1=(i:Int)+1+1∧eqH (setH (J6m (if j=0 then P 0 else P (j - 1)) n)) (setH (J6m (P i) n))=false):=by
  rintro ⟨a,b⟩
  rw [if_neg (by omega),show j - 1=i from by omega,show eqH (setH (J6m (P i) n)) (setH (J6m (P i) n))=true from Jem _] at b
  cases b
 rw [if_neg hv]
 show (if decide (pwJ (pB P j) (List.range n) * 2 < pwJ (pB P j) ((List.range n).filter g) * 3)=false then _ else _)=_
 by_cases k1:pwJ (pB P j) (List.range n) * 2 < pwJ (pB P j) ((List.range n).filter g) * 3
 ·have n1:¬ ¬ pwJ (pB P j) (List.range n) * 2 < pwJ (pB P j) ((List.range n).filter g) * 3:=fun q=>q k1
  rw [decide_eq_true k1,if_neg (show ¬ (true=false) by simp),if_neg n1]
  by_cases k2:j≠i+1∧¬ pwJ (P i) (List.range n) * 1 < pwJ (P i) ((List.range n).filter g) * 3
  ·have m2:(j:Int)+1≠(i:Int)+1+1∧decide (pwJ (P i) (List.range n) * 1 < pwJ (P i) ((List.range n).filter g) * 3)=false:=⟨by omega,decide_eq_false k2.2⟩
   rw [if_pos k2,if_pos m2]
  ·have m2:¬ ((j:Int)+1≠(i:Int)+1+1∧decide (pwJ (P i) (List.range n) * 1 < pwJ (P i) ((List.range n).filter g) * 3)=false):=by
    rintro ⟨a,b⟩
    exact k2 ⟨by omega,of_decide_eq_false b⟩
   rw [if_neg k2,if_neg m2]
 ·rw [decide_eq_false k1,if_pos (show (false=false) from rfl),if_pos k1]
theorem K1j {n:Nat} (hn:n≤4) {r:Nat→List UInt8} {P:Nat→Nat→Int} (hP:∀ j,PwOk (P j)) {m:Nat} (hm:m≤16) {f:Nat→Int} (hf:Jhq m f) {i:Nat} (hi:i < m) {T:Int} {c:Cli} (hc:Knows (J6m (P i) n) T (hG n r (fun k=>J6m (P k) n) f i) c):K2h c:=by
 obtain ⟨c1,c2,c3,c4,_,_⟩:=hc
 have:=hf.1 i hi
 refine ⟨c1,by omega,by rw [c4]; exact Jpb (hP i) hn,?_,?_⟩
 ·rw [c3,hG_1]; omega
 ·rw [c3,hG_t]; omega
theorem K3i {n:Nat} (h1:1≤n) (hn:n≤4) {r:Nat→List UInt8} {P:Nat→Nat→Int} (hP:∀ j,PwOk (P j)) {m:Nat} (hm:m≤16) {f:Nat→Int} (hf:Jhq m f) {T:Int} (hT:0≤T∧T≤1073741824) {j:Nat} (hj:j < m) :
  J5d (hG n r (fun k=>J6m (P k) n) f j) (J6m (P j) n) T=some (.inr (0,([hG n r (fun k=>J6m (P k) n) f j],J6m (P j) n,T,false,()))):=by
 have hl:(J6m (P j) n).length=n:=by simp [J6m]
 have fj:=hf.1 j hj
 rw [new_eq _ _ _ (Jjj _ n) (by omega)]
 unfold newS
 rw [if_pos ⟨Jm8 (by omega) fj.1 (by omega),Jc6 (hP j) h1 hn,by rw [Jqh]; exact Jem _,hT.1,hT.2⟩]
theorem K34 (n:Nat) (r:Nat→List UInt8) (P:Nat→Nat→Int) (f:Nat→Int) (j:Nat):genB n r (fun k=>J6m (P k) n) f j=sgB n r P f j (fun _=>true):=by
 unfold genB sgB
 rw [Jm5]
def Je9 {α:Type} (l:List α):List α:=l.drop (l.length - 6)
theorem Jf4 {α:Type} (l:List α):(Je9 l).length=min l.length 6:=by unfold Je9; rw [List.length_drop]; omega
theorem Jkr {α:Type} (l:List α) (x:α):Je9 (l++[x])=if 6 < (Je9 l).length+1 then (Je9 l++[x]).drop 1 else Je9 l++[x]:=by
 rw [Jf4]
 unfold Je9
 rw [List.length_append,List.length_singleton]
 split
 ·rw [List.drop_append_of_le_length (by omega),List.drop_append_of_le_length (by rw [List.length_drop]; omega),List.drop_drop]
  congr 2; omega
 ·rw [show l.length+1 - 6=0 from by omega,show l.length - 6=0 from by omega]; rfl
noncomputable def rR (R:List (List Pr)) (j:Nat):List UInt8:=J9s (R.getD j [])
theorem K24 (R:List (List Pr)) (j:Nat):(rR R j).length=32:=J86 _
theorem Jy8 (R:List (List Pr)) (l:List Pr) {j:Nat} (h:j < R.length):rR (R++[l]) j=rR R j:=by
 unfold rR; rw [List.getD_eq_getElem?_getD,List.getD_eq_getElem?_getD,List.getElem?_append_left h]
theorem K3t (R:List (List Pr)) (l:List Pr):rR (R++[l]) R.length=J9s l:=by
 unfold rR; rw [List.getD_eq_getElem?_getD,List.getElem?_append_right (Nat.le_refl _)]; simp
section
variable (n : Nat) (p : Nat → Int) (f : Nat → Int)
noncomputable def BL (R:List (List Pr)):List Block:=blG n (rR R) (fun _=>J6m p n) f R.length
noncomputable def hL (R:List (List Pr)) (j:Nat):Hdr:=hG n (rR R) (fun _=>J6m p n) f j
noncomputable def gL (R:List (List Pr)) (j:Nat):Block:=genB n (rR R) (fun _=>J6m p n) f j
theorem Jva (R:List (List Pr)):(BL n p f R).length=R.length:=Jbp _ _ _ _ _
theorem BL_cg (R:List (List Pr)) (l:List Pr) {k:Nat} (h:k≤R.length):blG n (rR (R++[l])) (fun _=>J6m p n) f k=blG n (rR R) (fun _=>J6m p n) f k:=
 Jnm n k fun j hj=>⟨Jy8 R l (by omega),rfl,rfl⟩
theorem K2f (R:List (List Pr)) (l:List Pr):BL n p f (R++[l])=BL n p f R++[blkR n (J9s l) (J6m p n) (BL n p f R) (f R.length)]:=by
 unfold BL
 rw [List.length_append,List.length_singleton]
 show blG n (rR (R++[l])) _ f R.length++[_]=_
 rw [BL_cg n p f R l (Nat.le_refl _),K3t]
theorem K38 (R:List (List Pr)) (l:List Pr) {j:Nat} (h:j < R.length):hL n p f (R++[l]) j=hL n p f R j:=by
 unfold hL hG; rw [BL_cg n p f R l (by omega),Jy8 R l h]
theorem BL_at (R:List (List Pr)) {j:Nat} (h:j < R.length):(BL n p f R).getD j zBlk=gL n p f R j:=Jvt _ _ _ _ h
end
theorem Jbl (n:Nat):(J6n n).length=n:=J99 _ _
theorem Jgb (n:Nat):(J6t n).length=n:=J99 _ _
theorem Jai (p:Nat→Int) (n:Nat):(J6m p n).length=n:=J99 _ _
theorem Jt3 (h:Hdr) (hh:J8v h) (h1:1≤h.1) (h2:h.1≤16) (nm:List UInt8) (i:Nat):J5n (J96 (Ja4 i)) h nm (Ja4 i)=some (sgS h nm (Ja4 i)):=by
 unfold J5n
 rw [Jz9 h hh,J6f,By_eq _ (by rw [J8n]; omega) (Je8 _) _ _ (Jfj i) _ h1 h2 (by rw [Jju]; omega),J6f]
 rfl
theorem Jfy (p:Nat→Int) {n:Nat} (hn:n≤4):Ja (J6m p n)=some (J6m p n):=Jeq _ (by rw [Jai]; omega)
theorem Jw0 (l:List Block) (h:l.length≤1000):J0s l=some l:=by unfold J0s; rw [J6g (by omega)]
theorem Kr (p:Nat→Int) (hp:PwOk p) {n:Nat} (h1:1≤n) (hn:n≤4):J1w (J6m p n) (J6n n)=some ((),J6n n,J6t n,J6m p n,([],0,[],())):=by
 have e1:Jax (J6m p n)=true:=Jc6 hp h1 hn
 have e2:J1w_1 (J6n n) (n:Int) 0 () (J6n n) [] (J6m p n) ([],0,[],())=some ((),J6n n,J6t n,J6m p n,([],0,[],())):=by
  unfold J1w_1
  have:=J6s (step:=fun (s:Int×List (List (List UInt8)))=>J1w_1_step (J6n n) (n:Int) s.1 () (J6n n) s.2 (J6m p n) ([],0,[],())) (fun i (_:Unit)=>((i:Int),J6t i)) (fun _ _=>()) (fun _=>((),J6n n,J6t n,J6m p n,([],0,[],()))) n (fun _ _=>True)
   (fun i w hi _=>⟨by
    show J1w_1_step (J6n n) (n:Int) (i:Int) () (J6n n) (J6t i) (J6m p n) ([],0,[],())=_
    unfold J1w_1_step
    have g1:(J6n n).getD i (List.replicate 32 (0:UInt8))=Ja4 i:=J82 _ _ hi
    rw [J6j (by omega),J6g (by rw [Jbl]; omega),Int.toNat_natCast,g1,K2i _ (Jfj i),J6f,J6g (by rw [Jgb,List.length_singleton]; omega),J6k (by omega) (by omega)]
    rw [show J6t (i+1)=J6t i++[J96 (Ja4 i)] from Jhf _ _]
    rfl,trivial⟩) (fun w _=>by
    show J1w_1_step (J6n n) (n:Int) (n:Int) () (J6n n) (J6t n) (J6m p n) ([],0,[],())=_
    unfold J1w_1_step
    rw [J6h (by omega)]) n 0 () (by omega) trivial
  exact this
 unfold J1w
 rw [right_eq _ (by rw [Jai]; omega),J6f,e1,Jai,Jbl]
 rw [show (!true)=false from rfl,J6r,J9v rfl]
 rw [show J30 (J6n n)=some (J6n n) from by unfold J30; rw [J6g (by rw [Jbl]; omega)],J6f,Jfy p hn,J6f]
 show andThen (J1w_1 (J6n n) (n:Int) 0 () (J6n n) [] (J6m p n) ([],0,[],())) _=_
 rw [e2]
 rfl
theorem hcA (n:Nat) (hn:n≤4) (p:Nat→Int) (h:Hdr) (hh:J8v h) (h1:1≤h.1) (h2:h.1≤16) (st:Stt) (g:Hdr) (a b:List Val) :
  Jr_1 (n:Int) 0 () (J6n n) (J6t n) (J6m p n) st h g () [] a b=some ((),J6n n,J6t n,J6m p n,st,g,(),sgJ h (List.range n),a,b):=by
 unfold Jr_1
 have:=J6s (step:=fun (s:Int×List J7i)=>Jr_1_step (n:Int) s.1 () (J6n n) (J6t n) (J6m p n) st h g () s.2 a b) (fun i (_:Unit)=>((i:Int),sgJ h (List.range i))) (fun _ _=>()) (fun _=>((),J6n n,J6t n,J6m p n,st,g,(),sgJ h (List.range n),a,b)) n (fun _ _=>True)
  (fun i w hi _=>⟨by
   show Jr_1_step (n:Int) (i:Int) () (J6n n) (J6t n) (J6m p n) st h g () (sgJ h (List.range i)) a b=_
   unfold Jr_1_step
   have g1:(J6n n).getD i (List.replicate 32 (0:UInt8))=Ja4 i:=J82 _ _ hi
   have g2:(J6t n).getD i []=J96 (Ja4 i):=J82 _ _ hi
   have g3:((J6m p n).getD i zVal).1=nm i:=by rw [show (J6m p n).getD i zVal=Jf7 p i from J82 _ _ hi]; rfl
   rw [J6j (by omega),J6g (by rw [Jai]; omega),J6g (by rw [Jgb]; omega),J6g (by rw [Jbl]; omega),Int.toNat_natCast,g1,g2]
   rw [show ((([]:List UInt8),(0:Int),(List.replicate 32 (0:UInt8)),()):Val)=zVal from rfl,g3,Jt3 h hh h1 h2,J6f,J6g (by rw [Jgh,List.length_range]; simp only [List.length_cons,List.length_nil]; omega),J6k (n:=(i:Int)+1) (by omega) (by omega),Jn3]
   rfl,trivial⟩) (fun w _=>by
   show Jr_1_step (n:Int) (n:Int) () (J6n n) (J6t n) (J6m p n) st h g () (sgJ h (List.range n)) a b=_
   unfold Jr_1_step
   rw [J6h (by omega)]) n 0 () (by omega) trivial
 exact this
theorem hcB (n:Nat) (hn:n≤4) (p:Nat→Int) (h:Hdr) (hh:J8v h) (h1:1≤h.1) (h2:h.1≤16) (st:Stt) (B:List Block) (g:Hdr) (a b:List Val) :
  Jd_1 (J6m p n) (n:Int) 0 () (J6n n) (J6t n) (J6m p n) st B h g () [] a b=some ((),J6n n,J6t n,J6m p n,st,B,g,(),sgJ h (List.range n),a,b):=by
 unfold Jd_1
 have:=J6s (step:=fun (s:Int×List J7i)=>Jd_1_step (J6m p n) (n:Int) s.1 () (J6n n) (J6t n) (J6m p n) st B h g () s.2 a b) (fun i (_:Unit)=>((i:Int),sgJ h (List.range i))) (fun _ _=>()) (fun _=>((),J6n n,J6t n,J6m p n,st,B,g,(),sgJ h (List.range n),a,b)) n (fun _ _=>True)
  (fun i w hi _=>⟨by
   show Jd_1_step (J6m p n) (n:Int) (i:Int) () (J6n n) (J6t n) (J6m p n) st B h g () (sgJ h (List.range i)) a b=_
   unfold Jd_1_step
   have g1:(J6n n).getD i (List.replicate 32 (0:UInt8))=Ja4 i:=J82 _ _ hi
   have g2:(J6t n).getD i []=J96 (Ja4 i):=J82 _ _ hi
   have g3:((J6m p n).getD i zVal).1=nm i:=by rw [show (J6m p n).getD i zVal=Jf7 p i from J82 _ _ hi]; rfl
   rw [J6j (by omega),J6g (by rw [Jai]; omega),J6g (by rw [Jgb]; omega),J6g (by rw [Jbl]; omega),Int.toNat_natCast,g1,g2]
   rw [show ((([]:List UInt8),(0:Int),(List.replicate 32 (0:UInt8)),()):Val)=zVal from rfl,g3,Jt3 h hh h1 h2,J6f,J6g (by rw [Jgh,List.length_range]; simp only [List.length_cons,List.length_nil]; omega),J6k (n:=(i:Int)+1) (by omega) (by omega),Jn3]
   rfl,trivial⟩) (fun w _=>by
   show Jd_1_step (J6m p n) (n:Int) (n:Int) () (J6n n) (J6t n) (J6m p n) st B h g () (sgJ h (List.range n)) a b=_
   unfold Jd_1_step
   rw [J6h (by omega)]) n 0 () (by omega) trivial
 exact this
def stR (now:List Pr) (R:List (List Pr)):Stt:=(now,(R.length:Int),Je9 R,())
theorem Jxd {α:Type} {l:List α} {x:α} (h:x ∈ Je9 l):x ∈ l:=List.mem_of_mem_drop h
theorem K29 {now:List Pr} {R:List (List Pr)} (hn:RowB now) (hR:∀ l ∈ R,RowB l) (hl:R.length≤16):StOk (stR now R):=by
 refine ⟨hn,by show 0≤(R.length:Int); omega,by show (R.length:Int)≤16; omega,?_,fun l hl=>hR l (Jxd hl)⟩
 show ((Je9 R).length:Int)=min (R.length:Int) 6
 rw [Jf4]; omega
theorem Jv2 {now:List Pr} {R:List (List Pr)} (hl:R.length < 16):Jfz (stR now R)=((R.length:Int)+1,stR now (R++[now])):=by
 unfold Jfz
 rw [if_neg (show ¬ (stR now R).2.1=16 by show ¬ (R.length:Int)=16; omega)]
 unfold stR Jog
 dsimp only
 rw [Jkr,List.length_append,List.length_singleton]
 rfl
theorem stR_at {now:List Pr} {R:List (List Pr)} (h:Int):atS (stR now R) h=if 1≤h∧(R.length:Int) - 6 < h∧h≤(R.length:Int) then (R.getD (h - 1).toNat [],true) else ([],false):=by
 have hk:=Jf4 R
 have hlow:lowS (stR now R)=(R.length:Int) - ((Je9 R).length:Int)+1:=rfl
 unfold atS
 rw [hlow,show (stR now R).2.1=(R.length:Int) from rfl,hk]
 by_cases c:1≤h∧(R.length:Int) - 6 < h∧h≤(R.length:Int)
 ·rw [if_pos c,if_neg (by omega)]
  congr 1
  show (Je9 R).getD _ []=_
  unfold Je9
  rw [List.getD_eq_getElem?_getD,List.getD_eq_getElem?_getD,List.getElem?_drop]
  congr 2; omega
 ·rw [if_neg c,if_pos (by omega)]
end Go.Ax.V
