/-
  A slash on the host lowers the rate, a reward raises it, a delegation too; shares stay.
-/
import Derived.Test.YthhioanidhkdeaaGreatCTopSlashP
namespace Go.Ax.V
open Go.Ax
set_option linter.unusedVariables false
set_option linter.unusedSimpArgs false
def J77 {τ:Type} (f:Nat→τ→τ):Nat→Nat→τ→τ
 | _,0,t=>t
 | i,k+1,t=>J77 f (i+1) k (f i t)
theorem J6o {σ ρ τ : Type} {step : σ → Option (σ ⊕ ρ)} (st : Nat → τ → σ) (f : Nat → τ → τ) (g : τ → ρ) (n : Nat) (I : Nat → τ → Prop)
    (h1 : ∀ i t, i < n → I i t → step (st i t) = some (.inl (st (i + 1) (f i t))) ∧ I (i + 1) (f i t))
    (h2 : ∀ t, I n t → step (st n t) = some (.inr (g t))) : ∀ (k i : Nat) (t : τ), i + k = n → I i t → loop step (st i t) = some (g (J77 f i k t))
  | 0, i, t, e, h => by have : i = n := by omega
                        subst this; exact J70 (h2 t h)
  | k + 1, i, t, e, h => by
    rw [J76 (h1 i t (by omega) h).1]
    exact J6o st f g n I h1 h2 k (i + 1) (f i t) (by omega) (h1 i t (by omega) h).2
theorem Nat.find_of {p:Nat→Prop} (h:∃ n,p n):∃ n,p n∧∀ m,m < n→¬ p m:=by
 obtain ⟨n,hn⟩:=h
 induction n using Nat.strongRecOn with
 | _ n ih=>
  by_cases hx:∃ m,m < n∧p m
  ·obtain ⟨m,hm,hp⟩:=hx; exact ih m hm hp
  ·exact ⟨n,hn,fun m hm hp=>hx ⟨m,hm,hp⟩⟩
def scan {ρ:Type} (bad:Nat→Option ρ) (r0:ρ):Nat→Nat→ρ
 | _,0=>r0
 | i,k+1=>match bad i with
  | some r=>r
  | none=>scan bad r0 (i+1) k
theorem Jbh {ρ:Type} {bad:Nat→Option ρ} {r0:ρ}:∀ (k i:Nat),(∀ j,i≤j→j < i+k→bad j=none)→scan bad r0 i k=r0
 | 0,i,_=>rfl
 | k+1,i,h=>by
  rw [scan,h i (Nat.le_refl _) (by omega)]
  exact Jbh k (i+1) fun j h1 h2=>h j (by omega) (by omega)
theorem Jad {ρ:Type} {bad:Nat→Option ρ} {r0 r:ρ}:∀ (k i j:Nat),i≤j→j < i+k→(∀ j',i≤j'→j' < j→bad j'=none)→bad j=some r→scan bad r0 i k=r
 | 0,i,j,h1,h2,_,_=>by omega
 | k+1,i,j,h1,h2,h3,h4=>by
  rw [scan]
  by_cases e:i=j
  ·subst e; rw [h4]
  ·rw [h3 i (Nat.le_refl _) (by omega)]
   exact Jad k (i+1) j (by omega) (by omega) (fun j' g1 g2=>h3 j' (by omega) g2) h4
theorem J93 {σ ρ : Type} {step : σ → Option (σ ⊕ ρ)} (st : Nat → σ) (bad : Nat → Option ρ) (r0 : ρ) (n : Nat) (h1 : ∀ i, i < n → bad i = none → step (st i) = some (.inl (st (i + 1))))
    (h2 : ∀ i r, i < n → bad i = some r → step (st i) = some (.inr r)) (h3 : step (st n) = some (.inr r0)) : ∀ (k i : Nat), i + k = n → loop step (st i) = some (scan bad r0 i k)
  | 0, i, e => by have : i = n := by omega
                  subst this; exact J70 h3
  | k + 1, i, e => by
    rw [scan]
    split
    · rename_i r hr; exact J70 (h2 i r (by omega) hr)
    · rename_i hn
      rw [J76 (h1 i (by omega) hn)]
      exact J93 st bad r0 n h1 h2 h3 k (i + 1) (by omega)
theorem J6c {α β:Type} {a:α} {k:α→Option β}:andThen (some a) k=k a:=rfl
theorem J6g {α:Type} {p:Prop} [Decidable p] {x y:Option α} (h:p):fork (decide p) x y=x:=by rw [decide_eq_true h]; rfl
theorem J6e {α:Type} {p:Prop} [Decidable p] {x y:Option α} (h:¬ p):fork (decide p) x y=y:=by rw [decide_eq_false h]; rfl
theorem J90 {α:Type} {p:Prop} [Decidable p] {x y:Option α} (h:p):fork (!decide p) x y=y:=by rw [decide_eq_true h]; rfl
theorem Jaz {α:Type} {p:Prop} [Decidable p] {x y:Option α} (h:¬ p):fork (!decide p) x y=x:=by rw [decide_eq_false h]; rfl
theorem J7g {α:Type} {x y:Option α}:fork true x y=x:=rfl
theorem J6j {α:Type} {x y:Option α}:fork false x y=y:=rfl
theorem Jh6 {α:Type} {b:Bool} {x y:Option α}:fork b x y=if b then x else y:=by cases b <;> rfl
theorem Jet {α:Type} (l:List α) (u:Int):cutL l 0 u=l.take u.toNat:=rfl
theorem J8z {α:Type} (l:List α) (u:Int):cutL l u (l.length:Int)=l.drop u.toNat:=by
 unfold cutL; rw [Int.toNat_natCast,List.take_of_length_le (Nat.le_refl _)]
theorem Jz7 (t:Ty) (h:t.comp=true) (x:t.den):Ty.beq t x x=true:=(Ty.beq_iff t h x x).2 rfl
theorem Jeo (x:List UInt8):Ty.beq (.arr 32 (.int .u8)) x x=true:=Jz7 (.arr 32 (.int .u8)) rfl x
abbrev Val:=List UInt8×Int×List UInt8×Unit
def zVal:Val:=(([]:List UInt8),(0:Int),(List.replicate 32 (0:UInt8)),())
theorem Jn7:((([]:List UInt8),(0:Int),(List.replicate 32 (0:UInt8)),()):Val)=zVal:=rfl
theorem K7 (l:List (List UInt8)) (x:List UInt8) (hl:l.length≤1073741824):J1r l x=some (l.contains x):=by
 have h:Jo_1 l x (l.length:Int) 0=some (scan (fun i=>if x=l.getD i [] then some (.inl (i:Int)) else none) (.inr ()) 0 l.length):=by
  unfold Jo_1
  refine J93 (step:=fun (s:Int)=>Jo_1_step l x (l.length:Int) s) (fun i=>(i:Int)) _ _ l.length (fun i hi h=>?_) (fun i r hi h=>?_) ?_ l.length 0 (by omega)
  ·unfold Jo_1_step
   simp (disch:=omega) only [J6g,J6h,J6d,Int.toNat_natCast]
   by_cases e:x=l.getD i []
   ·rw [if_pos e] at h; cases h
   ·rw [J6e e]; rfl
  ·unfold Jo_1_step
   simp (disch:=omega) only [J6g,J6h,J6d,Int.toNat_natCast]
   by_cases e:x=l.getD i []
   ·rw [if_pos e] at h; rw [J6g e]; injection h with h; subst h; rfl
   ·rw [if_neg e] at h; cases h
  ·unfold Jo_1_step
   rw [J6e (by omega)]
 unfold J1r Jo
 rw [h,J6c]
 by_cases hx:x ∈ l
 ·have hm:∃ j,j < l.length∧x=l.getD j []:=by
   obtain ⟨j,hj,e⟩:=List.getElem_of_mem hx
   exact ⟨j,hj,by rw [List.getD_eq_getElem?_getD,List.getElem?_eq_getElem hj]; exact e.symm⟩
  obtain ⟨j,hj⟩:=Nat.find_of (p:=fun j=>j < l.length∧x=l.getD j []) hm
  rw [Jad l.length 0 j (Nat.zero_le _) (by omega) (fun j' _ h=>?_) (if_pos hj.1.2)]
  ·simp [andThen,hx]
  ·rw [if_neg]
   intro e
   exact hj.2 j' h ⟨by omega,e⟩
 ·rw [Jbh _ _ (fun j _ h=>?_)]
  ·simp [andThen,hx]
  ·rw [if_neg]
   intro e
   apply hx
   rw [e,List.getD_eq_getElem?_getD,List.getElem?_eq_getElem (by omega:j < l.length)]
   exact List.getElem_mem _
def pow (p:Val→Bool) (l:List Val):Int:=((l.filter p).map (·.2.1)).sum
def Jc7 (l:List Val):Prop:=l.length≤1000∧∀ v ∈ l,0≤v.2.1∧v.2.1≤2097152
theorem Jaa (p:Val→Bool):∀ (l:List Val),(∀ v ∈ l,0≤v.2.1∧v.2.1≤2097152)→0≤pow p l∧pow p l≤2097152 * l.length
 | [],_=>by simp [pow]
 | v::l,h=>by
  have ih:=Jaa p l fun w hw=>h w (List.mem_cons_of_mem _ hw)
  have hv:=h v (List.mem_cons_self)
  unfold pow at ih ⊢
  by_cases hp:p v
  ·rw [List.filter_cons_of_pos hp]; simp only [List.map_cons,List.sum_cons,List.length_cons]; omega
  ·rw [List.filter_cons_of_neg hp]; simp only [List.length_cons]; omega
theorem Js9 (p:Val→Bool) (l:List Val) {i:Nat} (h:i < l.length):pow p (l.take (i+1))=pow p (l.take i)+(if p (l.getD i zVal) then (l.getD i zVal).2.1 else 0):=by
 unfold pow
 rw [List.take_add_one,List.getElem?_eq_getElem h,List.getD_eq_getElem?_getD,List.getElem?_eq_getElem h]
 simp only [Option.toList_some,Option.getD_some,List.filter_append,List.map_append,List.sum_append]
 by_cases hp:p l[i]
 ·rw [List.filter_cons_of_pos hp]; simp [hp]
 ·rw [List.filter_cons_of_neg hp]; simp [hp]
theorem J7e {α:Type} {l:List α} {i:Nat} {z:α} (h:i < l.length):l.getD i z ∈ l:=by
 rw [List.getD_eq_getElem?_getD,List.getElem?_eq_getElem h]; exact List.getElem_mem _
theorem K0m (l:List Val) (h:Jc7 l):J1i l=some (pow (fun _=>true) l):=by
 have main:J1i_1 0 l (l.length:Int) 0=some (pow (fun _=>true) l):=by
  unfold J1i_1
  have:=J6o (step:=fun (s:Int×Int)=>J1i_1_step s.1 l (l.length:Int) s.2) (fun i (_:Unit)=>(pow (fun _=>true) (l.take i),(i:Int))) (fun _ _=>()) (fun _=>pow (fun _=>true) l) l.length (fun _ _=>True) (fun i w hi _=>⟨?_,trivial⟩) (fun w _=>?_) l.length 0 () (by omega) trivial
  ·exact this
  ·unfold J1i_1_step
   simp only [Jn7]
   have b:=Jaa (fun _=>true) (l.take i) fun v hv=>h.2 v (List.mem_of_mem_take hv)
   have hm:=h.2 _ (J7e (z:=zVal) hi)
   have hl:=h.1
   have t:=Js9 (fun _=>true) l hi
   rw [List.length_take] at b
   simp only [if_true] at t
   simp (disch:=omega) only [J6g,J6h,J6d,Int.toNat_natCast]
   rw [t]
   rfl
  ·unfold J1i_1_step
   rw [J6e (by omega),List.take_of_length_le (Nat.le_refl _)]
 unfold J1i
 rw [main,J6c]
theorem K0j (l:List Val) (h:Jc7 l) (ns:List (List UInt8)) (hn:ns.length≤1073741824):J1h l ns=some (pow (fun v=>ns.contains v.1) l,pow (fun _=>true) l):=by
 have hl:=h.1
 have main:J1h_1 l ns 0 l (l.length:Int) 0=some (l,pow (fun v=>ns.contains v.1) l):=by
  unfold J1h_1
  have:=J6o (step:=fun (s:Int×Int)=>J1h_1_step l ns s.1 l (l.length:Int) s.2) (fun i (_:Unit)=>(pow (fun v=>ns.contains v.1) (l.take i),(i:Int))) (fun _ _=>()) (fun _=>(l,pow (fun v=>ns.contains v.1) l)) l.length (fun _ _=>True) (fun i w hi _=>⟨?_,trivial⟩) (fun w _=>?_) l.length 0 () (by omega) trivial
  ·exact this
  ·unfold J1h_1_step
   simp only [Jn7]
   have b:=Jaa (fun v=>ns.contains v.1) (l.take i) fun v hv=>h.2 v (List.mem_of_mem_take hv)
   have hm:=h.2 _ (J7e (z:=zVal) hi)
   have t:=Js9 (fun v=>ns.contains v.1) l hi
   rw [List.length_take] at b
   simp (disch:=omega) only [J6g,J6h,J6d,Int.toNat_natCast,K7 _ _ hn,J6c]
   by_cases hc:ns.contains (l.getD i zVal).1
   ·rw [if_pos hc] at t
    rw [hc,J7g,t]
    rfl
   ·rw [if_neg hc] at t
    rw [Bool.not_eq_true] at hc
    rw [hc,J6j,t,Int.add_zero]
    rfl
  ·unfold J1h_1_step
   rw [J6e (by omega),List.take_of_length_le (Nat.le_refl _)]
 have b1:=Jaa (fun v=>ns.contains v.1) l h.2
 have b2:=Jaa (fun _=>true) l h.2
 unfold J1h
 rw [main,J6c,J6d (by show Int.natAbs (pow _ l) < _; omega),K0m l h,J6c,J6d (by omega)]
theorem Jxe (t:Int×Int) (n d:Int) (h1:0≤t.1∧t.1≤4294967296) (h2:0≤t.2∧t.2≤4294967296) (hn:0≤n∧n≤1000) (hd:0≤d∧d≤1000):J5g t n d=some (decide (t.2 * n < t.1 * d)):=by
 unfold J5g
 have b1:0≤t.2 * n∧t.2 * n≤4294967296 * 1000:=⟨Int.mul_nonneg h2.1 hn.1,Int.mul_le_mul h2.2 hn.2 hn.1 (by omega)⟩
 have b2:0≤t.1 * d∧t.1 * d≤4294967296 * 1000:=⟨Int.mul_nonneg h1.1 hd.1,Int.mul_le_mul h1.2 hd.2 hd.1 (by omega)⟩
 rw [J6h (by omega) (by omega),J6h (by omega) (by omega)]
def mayS (v:Val):Bool:=!decide (v.1=[]) && (decide ((v.1.length:Int)≤16) && (decide (1≤v.2.1) && decide (v.2.1≤1048576)))
theorem may_eq (v:Val):J5y v=some (mayS v):=by
 unfold J5y mayS
 simp only [Jh6]
 split
 ·rename_i h; rw [h]; split
  ·rename_i h; rw [h]; split
   ·rename_i h; rw [h]; simp
   ·rename_i h; rw [Bool.not_eq_true] at h; rw [h]; simp
  ·rename_i h; rw [Bool.not_eq_true] at h; rw [h]; simp
 ·rename_i h; rw [Bool.not_eq_true] at h; rw [h]; simp
def okAt (l:List Val) (i:Nat):Bool:=mayS (l.getD i zVal) && (i == 0 || J6v (l.getD (i - 1) zVal).1 (l.getD i zVal).1)
def Jar (l:List Val):Bool:=(List.range l.length).all (okAt l) && (decide (1≤l.length) && decide (l.length≤5))
theorem right_eq (l:List Val) (hl:l.length≤1073741824):J0s l=some (Jar l):=by
 have main:J0s_1 l l (l.length:Int) 0=some (scan (fun i=>if okAt l i then none else some (.inl false)) (.inr l) 0 l.length):=by
  unfold J0s_1
  have step:∀ i,i < l.length→J0s_1_step l l (l.length:Int) (i:Int)=if okAt l i then some (.inl ((i+1:Nat):Int)) else some (.inr (.inl false)):=by
   intro i hi
   unfold J0s_1_step
   simp only [Jn7]
   simp (disch:=omega) only [J6g,J6h,J6d,Int.toNat_natCast,may_eq,J6c]
   unfold okAt
   by_cases hm:mayS (l.getD i zVal)
   ·rw [hm]
    rw [show (!true)=false from rfl,J6j,Bool.true_and]
    by_cases h0:i=0
    ·subst h0; rw [J6e (by omega)]; rfl
    ·rw [J6g (by omega),J6d (by omega),show Int.toNat ((i:Int) - 1)=i - 1 from by omega]
     have:(i == 0)=false:=by simp [h0]
     rw [this,Bool.false_or]
     by_cases hs:J6v (l.getD (i - 1) zVal).1 (l.getD i zVal).1
     ·rw [hs]; rfl
     ·rw [Bool.not_eq_true] at hs; rw [hs]; rfl
   ·rw [Bool.not_eq_true] at hm; rw [hm]; rfl
  refine J93 (step:=fun (s:Int)=>J0s_1_step l l (l.length:Int) s) (fun i=>(i:Int)) _ _ l.length (fun i hi h=>?_) (fun i r hi h=>?_) ?_ l.length 0 (by omega)
  ·by_cases hk:okAt l i
   ·exact (step i hi).trans (if_pos hk)
   ·rw [if_neg hk] at h; cases h
  ·by_cases hk:okAt l i
   ·rw [if_pos hk] at h; cases h
   ·rw [if_neg hk] at h; injection h with h; subst h
    exact (step i hi).trans (if_neg hk)
  ·unfold J0s_1_step
   rw [J6e (by omega)]
 unfold J0s
 rw [main,J6c]
 unfold Jar
 by_cases hall:(List.range l.length).all (okAt l)
 ·rw [Jbh _ _ (fun j _ h=>if_pos (List.all_eq_true.1 hall j (by simp; omega))),hall,Bool.true_and]
  simp only [Jh6]
  by_cases h1:1≤l.length
  ·rw [decide_eq_true h1,decide_eq_true (show (1:Int)≤(l.length:Int) by omega),if_pos rfl,Bool.true_and]
   congr 1
   exact decide_eq_decide.2 (by omega)
  ·rw [decide_eq_false h1,decide_eq_false (show ¬ (1:Int)≤(l.length:Int) by omega)]; rfl
 ·rw [Bool.not_eq_true] at hall
  have:∃ j,j < l.length∧okAt l j=false:=by
   rw [List.all_eq_false] at hall
   obtain ⟨j,hj,hk⟩:=hall
   exact ⟨j,by simpa using hj,by simpa using hk⟩
  obtain ⟨j,hj⟩:=Nat.find_of this
  have hsc:scan (fun i=>if okAt l i then none else some (.inl false)) (.inr l:Bool⊕List Val) 0 l.length=.inl false:=by
   refine Jad l.length 0 j (Nat.zero_le _) (by omega) (fun j' _ h=>if_pos ?_) (if_neg ?_)
   ·have:=hj.2 j' h
    cases hk:okAt l j' with
    | true=>rfl
    | false=>exact absurd ⟨by omega,hk⟩ this
   ·rw [hj.1.2]; simp
  rw [hall,hsc]
  rfl
theorem Kn (p:Val→Bool) (v:Val) (l:List Val):pow p (v::l)=(if p v then v.2.1 else 0)+pow p l:=by
 unfold pow
 by_cases h:p v
 ·rw [List.filter_cons_of_pos h,if_pos h]; simp
 ·rw [List.filter_cons_of_neg h,if_neg h]; simp
theorem K34 (p:Val→Bool):pow p []=0:=rfl
theorem Jae:∀ a:List UInt8,J6v a a=false
 | []=>rfl
 | x::a=>by
  rw [J6v,Jae a]
  simp
theorem J82:∀ a b c:List UInt8,J6v a b=true→J6v b c=true→J6v a c=true
 | _,[],_,h,_=>by cases ‹List UInt8› <;> simp [J6v] at h
 | _,_::_,[],_,h=>by simp [J6v] at h
 | [],_::_,_::_,_,_=>rfl
 | x::a,y::b,z::c,h1,h2=>by
  simp only [J6v,Bool.or_eq_true,Bool.and_eq_true,decide_eq_true_eq,beq_iff_eq] at h1 h2 ⊢
  rcases h1 with h1 | ⟨rfl,h1⟩
  ·rcases h2 with h2 | ⟨rfl,h2⟩
   ·exact .inl (UInt8.lt_trans h1 h2)
   ·exact .inl h1
  ·rcases h2 with h2 | ⟨rfl,h2⟩
   ·exact .inl h2
   ·exact .inr ⟨rfl,J82 a b c h1 h2⟩
def incN (ns:List (List UInt8)):Bool:=(List.range (ns.length - 1)).all fun i=>J6v (ns.getD i []) (ns.getD (i+1) [])
theorem Jo3:∀ (ns:List (List UInt8)),incN ns=true→ns.Pairwise (fun a b=>J6v a b=true)
 | [],_=>List.Pairwise.nil
 | [x],_=>List.pairwise_singleton _ _
 | x::y::ns,h=>by
  have hall:∀ i,i < ns.length+1→J6v ((x::y::ns).getD i []) ((x::y::ns).getD (i+1) [])=true:=fun i hi=>List.all_eq_true.1 h i (by simp; omega)
  have ih:=Jo3 (y::ns) (List.all_eq_true.2 fun i hi=>by
   have:=hall (i+1) (by simp at hi; omega)
   exact this)
  have h0:J6v x y=true:=hall 0 (by omega)
  refine List.pairwise_cons.2 ⟨fun z hz=>?_,ih⟩
  rcases List.mem_cons.1 hz with rfl | hz
  ·exact h0
  ·exact J82 _ _ _ h0 ((List.pairwise_cons.1 ih).1 z hz)
theorem K2s:∀ (ns:List (List UInt8)),ns.Pairwise (fun a b=>J6v a b=true)→incN ns=true:=by
 intro ns h
 refine List.all_eq_true.2 fun i hi=>?_
 have hi:i < ns.length - 1:=by simpa using hi
 rw [List.getD_eq_getElem?_getD,List.getD_eq_getElem?_getD,List.getElem?_eq_getElem (by omega),List.getElem?_eq_getElem (by omega)]
 exact List.pairwise_iff_getElem.1 h i (i+1) (by omega) (by omega) (by omega)
def Jnu (l:List Val) (x:List UInt8):Val×Bool:=match l.find? (fun v=>decide (v.1=x)) with
 | some v=>(v,true)
 | none=>(zVal,false)
theorem Jp3 (l:List Val) (x:List UInt8):∀ (k i:Nat),i+k=l.length→scan (fun i=>if (l.getD i zVal).1=x then some (.inl (true,l.getD i zVal)) else none) (.inr zVal:(Bool×Val)⊕Val) i k =
  match (l.drop i).find? (fun v=>decide (v.1=x)) with | some v=>.inl (true,v) | none=>.inr zVal
 | 0,i,h=>by rw [List.drop_of_length_le (by omega)]; rfl
 | k+1,i,h=>by
  have hd:l.drop i=l.getD i zVal::l.drop (i+1):=by
   rw [List.drop_eq_getElem_cons (by omega),List.getD_eq_getElem?_getD,List.getElem?_eq_getElem (by omega)]; rfl
  rw [scan,hd]
  by_cases e:(l.getD i zVal).1=x
  ·rw [if_pos e,List.find?_cons_of_pos (by simpa using e)]
  ·rw [if_neg e,List.find?_cons_of_neg (by simpa using e)]
   exact Jp3 l x k (i+1) (by omega)
theorem Jnv (x:List UInt8) (l:List Val) (n i:Int) (z:Val):J1w_1_step x l n i z=(fork (decide (i < n)) (need (0≤i∧i < (l.length:Int)) (fork (decide ((l.getD (Int.toNat i) zVal).1=x)) (some (.inr (.inl (true,l.getD (Int.toNat i) zVal)))) (some (.inl (w64 (i+1)))))) (some (.inr (.inr z))):Option (Int⊕((Bool×Val)⊕Val))):=rfl
theorem K2k (l:List Val) (hl:l.length≤1073741824) (x:List UInt8):J1w l x=some (Jnu l x):=by
 have h:J1w_1 x l (l.length:Int) 0 zVal=some (scan (fun i=>if (l.getD i zVal).1=x then some (.inl (true,l.getD i zVal)) else none) (.inr zVal) 0 l.length):=by
  unfold J1w_1
  refine J93 (step:=fun (s:Int)=>J1w_1_step x l (l.length:Int) s zVal) (fun i=>(i:Int)) _ _ l.length (fun i hi h=>?_) (fun i r hi h=>?_) ?_ l.length 0 (by omega)
  ·rw [Jnv,J6g (by omega),J6d (by omega),Int.toNat_natCast,J6h (by omega) (by omega)]
   by_cases e:(l.getD i zVal).1=x
   ·rw [if_pos e] at h; cases h
   ·rw [J6e e]; rfl
  ·rw [Jnv,J6g (by omega),J6d (by omega),Int.toNat_natCast]
   by_cases e:(l.getD i zVal).1=x
   ·rw [if_pos e] at h; injection h with h; subst h; rw [J6g e]
   ·rw [if_neg e] at h; cases h
  ·unfold J1w_1_step
   rw [J6e (by omega)]
 unfold J1w
 simp only [Jn7]
 rw [h,J6c,Jp3 l x l.length 0 (by omega),List.drop_zero]
 unfold Jnu
 cases l.find? (fun v=>decide (v.1=x)) <;> rfl
def Dist (l:List Val):Prop:=(l.map (·.1)).Nodup
theorem K2l {l:List Val} (hd:Dist l) {v:Val} (hv:v ∈ l):Jnu l v.1=(v,true):=by
 have:l.find? (fun w=>decide (w.1=v.1))=some v:=by
  induction l with
  | nil=>cases hv
  | cons w l ih=>
   unfold Dist at hd
   rw [List.map_cons,List.nodup_cons] at hd
   rcases List.mem_cons.1 hv with rfl | hv
   ·rw [List.find?_cons_of_pos (by simp)]
   ·rw [List.find?_cons_of_neg]
    ·exact ih hd.2 hv
    ·simp only [decide_eq_true_eq]
     intro e
     exact hd.1 (by rw [e]; exact List.mem_map_of_mem hv)
 unfold Jnu
 rw [this]
abbrev Pr:=List UInt8×List UInt8×Unit
def zPr:Pr:=([],[],())
abbrev PT:Ty:=.fld .str (.fld .str .unit)
theorem pbeq (a b:Pr):Ty.beq PT a b=decide (a=b):=by
 rw [Bool.eq_iff_iff,Ty.beq_iff PT rfl a b,decide_eq_true_eq]
theorem Jfm:∀ a b:List UInt8,J6v a b=false→a=b∨J6v b a=true
 | [],[],_=>.inl rfl
 | _::_,[],_=>.inr rfl
 | [],_::_,h=>by simp [J6v] at h
 | x::a,y::b,h=>by
  simp only [J6v,Bool.or_eq_false_iff,Bool.and_eq_false_iff,decide_eq_false_iff_not,beq_eq_false_iff_ne,ne_eq] at h
  obtain ⟨h1,h2⟩:=h
  by_cases e:x=y
  ·subst e
   rcases Jfm a b (h2.resolve_left (fun q=>q rfl)) with rfl | h
   ·exact .inl rfl
   ·exact .inr (by simp [J6v,h])
  ·right
   have:y < x:=by
    rcases UInt8.lt_or_lt_of_ne e with q | q
    ·exact absurd q h1
    ·exact q
   simp [J6v,this]
theorem Jpn:∀ a b:List UInt8,(cmpS a b < 0)↔J6v a b=true
 | [],[]=>by simp [cmpS,Lib.compareBytes,J6v]
 | [],_::_=>by simp [cmpS,Lib.compareBytes,J6v]
 | _::_,[]=>by simp [cmpS,Lib.compareBytes,J6v]
 | x::a,y::b=>by
  have ih:=Jpn a b
  unfold cmpS at ih
  unfold cmpS
  rw [Lib.compareBytes,J6v]
  by_cases h:x < y
  ·simp [h]
  ·rw [if_neg h]
   by_cases h2:y < x
   ·have hne:x≠y:=fun e=>by subst e; exact h h2
    rw [if_pos h2]; simp [h,hne]
   ·have he:x=y:=UInt8.le_antisymm (UInt8.not_lt.1 h2) (UInt8.not_lt.1 h)
    rw [if_neg h2,ih]; simp [he]
theorem Jlc:∀ a b:List UInt8,(cmpS a b=0)↔a=b
 | [],[]=>by simp [cmpS,Lib.compareBytes]
 | [],_::_=>by simp [cmpS,Lib.compareBytes]
 | _::_,[]=>by simp [cmpS,Lib.compareBytes]
 | x::a,y::b=>by
  have ih:=Jlc a b
  unfold cmpS at ih
  unfold cmpS
  rw [Lib.compareBytes]
  by_cases h:x < y
  ·have hne:x≠y:=fun e=>by subst e; exact UInt8.lt_irrefl _ h
   rw [if_pos h]; simp [hne]
  ·rw [if_neg h]
   by_cases h2:y < x
   ·have hne:x≠y:=fun e=>by subst e; exact h h2
    rw [if_pos h2]; simp [hne]
   ·have he:x=y:=UInt8.le_antisymm (UInt8.not_lt.1 h2) (UInt8.not_lt.1 h)
    rw [if_neg h2,ih]; simp [he]
def J6l:List Pr→List UInt8→Nat
 | [],_=>0
 | p::r,k=>bif J6v p.1 k then J6l r k+1 else 0
theorem below_le:∀ (l:List Pr) (k:List UInt8),J6l l k≤l.length
 | [],_=>Nat.le_refl _
 | p::r,k=>by
  have:=below_le r k
  unfold J6l
  cases J6v p.1 k
  ·exact Nat.zero_le _
  ·rw [cond_true,List.length_cons]; omega
theorem Jdb:∀ (l:List Pr) (k:List UInt8) (i:Nat),i < J6l l k→J6v (l.getD i zPr).1 k=true
 | [],_,i,h=>by unfold J6l at h; omega
 | p::r,k,i,h=>by
  unfold J6l at h
  cases e:J6v p.1 k with
  | false=>rw [e,cond_false] at h; omega
  | true=>
   rw [e,cond_true] at h
   match i with
   | 0=>exact e
   | j+1=>exact Jdb r k j (by omega)
theorem Jh3:∀ (l:List Pr) (k:List UInt8),J6l l k < l.length→J6v (l.getD (J6l l k) zPr).1 k=false
 | [],_,h=>by simp at h
 | p::r,k,h=>by
  unfold J6l at h ⊢
  cases e:J6v p.1 k with
  | false=>exact e
  | true=>
   rw [e,cond_true,List.length_cons] at h
   exact Jh3 r k (by omega)
theorem Jtf (l:List Pr) (k:List UInt8) (n:Nat) (hn:n≤l.length) (h1:∀ i,i < n→J6v (l.getD i zPr).1 k=true) (h2:n < l.length→J6v (l.getD n zPr).1 k=false):J6l l k=n:=by
 rcases Nat.lt_trichotomy (J6l l k) n with h | h | h
 ·have a:=h1 _ h
  rw [Jh3 l k (by omega)] at a; cases a
 ·exact h
 ·have a:=Jdb l k n h
  have b:=below_le l k
  rw [h2 (by omega)] at a; cases a
def J7v (l:List Pr):Prop:=l.Pairwise (fun a b=>J6v a.1 b.1=true)
theorem Jf2 {l:List Pr} (h:J7v l) {i j:Nat} (hij:i < j) (hj:j < l.length):J6v (l.getD i zPr).1 (l.getD j zPr).1=true:=by
 rw [List.getD_eq_getElem?_getD,List.getD_eq_getElem?_getD,List.getElem?_eq_getElem hj,List.getElem?_eq_getElem (by omega)]
 exact List.pairwise_iff_getElem.1 h i j (by omega) hj hij
theorem J8g {l:List Pr} (h:J7v l) (k:List UInt8) {i:Nat} (hi:i < l.length):J6v (l.getD i zPr).1 k=true↔i < J6l l k:=by
 refine ⟨fun hs=>?_,Jdb l k i⟩
 apply Classical.byContradiction
 intro hn
 have b:=Jh3 l k (by omega)
 rcases Nat.lt_or_ge (J6l l k) i with c | c
 ·rw [J82 _ _ _ (Jf2 h c hi) hs] at b; cases b
 ·have:J6l l k=i:=by omega
  rw [this,hs] at b; cases b
theorem Jte (l:List Pr) (a b:List UInt8) (h:J6v a b=false):J6l l b≤J6l l a:=by
 apply Nat.le_of_not_lt
 intro hc
 have hl:=below_le l b
 have h1:=Jdb l b _ hc
 have h2:=Jh3 l a (by omega)
 rcases Jfm a b h with rfl | q
 ·rw [h1] at h2; cases h2
 ·rw [J82 _ _ _ h1 q] at h2; cases h2
def isAt (l:List Pr) (k:List UInt8):Bool:=decide (J6l l k < l.length∧(l.getD (J6l l k) zPr).1=k)
theorem Jrr {l:List Pr} (h:J7v l) (k:List UInt8):isAt l k=true↔∃ p ∈ l,p.1=k:=by
 unfold isAt
 rw [decide_eq_true_eq]
 constructor
 ·rintro ⟨h1,h2⟩
  exact ⟨_,J7e h1,h2⟩
 ·rintro ⟨p,hp,e⟩
  obtain ⟨i,hi,rfl⟩:=List.getElem_of_mem hp
  have hg:l.getD i zPr=l[i]:=by rw [List.getD_eq_getElem?_getD,List.getElem?_eq_getElem hi]; rfl
  have:J6l l k=i:=by
   refine Jtf l k i (by omega) (fun j hj=>?_) fun _=>?_
   ·rw [← e,← hg]; exact Jf2 h hj hi
   ·rw [hg,e]; exact Jae k
  rw [this,hg]; exact ⟨hi,e⟩
theorem mid_eq (i j:Nat) (h:i+j≤1073741824):w64 ((UInt64.toNat (UInt64.ofNat (UInt64.toNat (UInt64.ofNat (Int.toNat ((w64 ((i:Int)+(j:Int))) % 18446744073709551616))) >>> (Int.toNat (1:Int)))):Nat):Int)=(((i+j) / 2:Nat):Int):=by
 rw [J6h (n:=(i:Int)+(j:Int)) (by omega) (by omega)]
 have e1:Int.toNat (((i:Int)+(j:Int)) % 18446744073709551616)=i+j:=by omega
 have e2:UInt64.toNat (UInt64.ofNat (i+j))=i+j:=by rw [UInt64.toNat_ofNat']; omega
 have e3:(i+j) >>> (Int.toNat (1:Int))=(i+j) / 2:=rfl
 have e4:UInt64.toNat (UInt64.ofNat ((i+j) / 2))=(i+j) / 2:=by rw [UInt64.toNat_ofNat']; omega
 rw [e1,e2,e3,e4,J6h (by omega) (by omega)]
theorem Jor (p:Pr) (k:List UInt8):J4x p k=some (cmpS p.1 k):=rfl
theorem Jve (x0:List Pr) (x1:List UInt8) (x2:Int) (x3:Int) (x4:Int):J9_1_step x0 x1 x2 x3 x4 =
  (fork (decide (x3 < x4)) (need (0≤(w64 ((UInt64.toNat (UInt64.ofNat (UInt64.toNat (UInt64.ofNat (Int.toNat ((w64 (x3+x4)) % 18446744073709551616))) >>> (Int.toNat (1:Int)))):Nat):Int))∧(w64 ((UInt64.toNat (UInt64.ofNat (UInt64.toNat (UInt64.ofNat (Int.toNat ((w64 (x3+x4)) % 18446744073709551616))) >>> (Int.toNat (1:Int)))):Nat):Int)) < (List.length x0:Int)) (andThen (J4x (List.getD x0 (Int.toNat (w64 ((UInt64.toNat (UInt64.ofNat (UInt64.toNat (UInt64.ofNat (Int.toNat ((w64 (x3+x4)) % 18446744073709551616))) >>> (Int.toNat (1:Int)))):Nat):Int))) zPr) x1) (fun u4=>fork (decide (u4 < (0:Int))) (some (.inl ((w64 ((w64 ((UInt64.toNat (UInt64.ofNat (UInt64.toNat (UInt64.ofNat (Int.toNat ((w64 (x3+x4)) % 18446744073709551616))) >>> (Int.toNat (1:Int)))):Nat):Int))+(1:Int))),x4))) (some (.inl (x3,(w64 ((UInt64.toNat (UInt64.ofNat (UInt64.toNat (UInt64.ofNat (Int.toNat ((w64 (x3+x4)) % 18446744073709551616))) >>> (Int.toNat (1:Int)))):Nat):Int)))))))) (some (.inr (x0,x1,x2,x3))):Option ((Int×Int)⊕((List Pr)×List UInt8×Int×Int))):=rfl
theorem Jpl (l:List Pr) (hr:J7v l) (hl:l.length≤1000) (k:List UInt8):∀ (m i j:Nat),j - i≤m→i≤J6l l k→J6l l k≤j→j≤l.length→
  J9_1 l k (l.length:Int) (i:Int) (j:Int)=some (l,k,(l.length:Int),(J6l l k:Int))
 | m,i,j,hm,h1,h2,h3=>by
  unfold J9_1
  by_cases c:i < j
  ·have hs:J9_1_step l k (l.length:Int) (i:Int) (j:Int)=some (.inl (if (i+j) / 2 < J6l l k then ((((i+j) / 2+1:Nat):Int),(j:Int)) else ((i:Int),(((i+j) / 2:Nat):Int)))):=by
    rw [Jve,J6g (by omega),mid_eq i j (by omega),J6d (by omega),Int.toNat_natCast,Jor,J6c,J6h (by omega) (by omega)]
    by_cases q:(i+j) / 2 < J6l l k
    ·rw [if_pos q,J6g ((Jpn _ _).2 (Jdb l k _ q))]; rfl
    ·rw [if_neg q,J6e (fun e=>q ((J8g hr k (by omega)).1 ((Jpn _ _).1 e)))]
   rw [J76 hs]
   match m with
   | 0=>omega
   | m+1=>
    by_cases q:(i+j) / 2 < J6l l k
    ·rw [if_pos q]
     exact Jpl l hr hl k m ((i+j) / 2+1) j (by omega) (by omega) h2 h3
    ·rw [if_neg q]
     exact Jpl l hr hl k m i ((i+j) / 2) (by omega) h1 (by omega) (by omega)
  ·have:i=J6l l k:=by omega
   subst this
   exact J70 (by rw [Jve,J6e (by omega)])
theorem Jfd (l:List Pr) (hr:J7v l) (hl:l.length≤1000) (k:List UInt8):J4j l k=some ((J6l l k:Int),isAt l k):=by
 have hb:=below_le l k
 have h:J9 l k=some ((J6l l k:Int),isAt l k):=by
  unfold J9
  rw [show ((0:Int))=((0:Nat):Int) from rfl,Jpl l hr hl k l.length 0 l.length (by omega) (by omega) hb (Nat.le_refl _),J6c]
  simp only
  unfold isAt
  by_cases c:J6l l k < l.length
  ·rw [J6g (by omega),J6d (by omega),Jor,J6c,Int.toNat_natCast]
   congr 2
   exact decide_eq_decide.2 ⟨fun e=>⟨c,(Jlc _ _).1 e⟩,fun e=>(Jlc _ _).2 e.2⟩
  ·rw [J6e (by omega),decide_eq_false (fun e=>c e.1)]
 unfold J4j
 rw [h,J6c]
theorem Jco (l:List Pr) (hr:J7v l) (hl:l.length≤1000) (k:List UInt8):J42 l k=some (J6l l k:Int):=by
 unfold J42
 rw [Jfd l hr hl,J6c]
theorem Jcp (l:List Pr) (hr:J7v l) (hl:l.length≤1000) (k:List UInt8):J2z l k=some (if isAt l k then ((l.getD (J6l l k) zPr).2.1,true) else ([],false)):=by
 unfold J2z
 rw [Jfd l hr hl,J6c]
 cases c:isAt l k with
 | false=>rfl
 | true=>
  have:=c
  unfold isAt at this
  rw [decide_eq_true_eq] at this
  rw [Bool.not_true,J6j,J6d (by omega),Int.toNat_natCast]; rfl
theorem Jf8 (a:Nat):(BitVec.ofInt 64 (a:Int)).toNat=a % 18446744073709551616:=by
 rw [BitVec.toNat_ofInt]; omega
theorem Jl3 (a b:Nat) (ha:a < 9223372036854775808) (hb:b < 9223372036854775808):band (a:Int) (b:Int)=((a &&& b:Nat):Int):=by
 unfold band
 have hle:a &&& b≤a:=Nat.and_le_left
 rw [BitVec.toNat_and,Jf8,Jf8,Nat.mod_eq_of_lt (by omega),Nat.mod_eq_of_lt (by omega)]
 exact J6h (by omega) (by omega)
theorem Jvd (a b:Nat) (h:(a ||| b) < 9223372036854775808):bor (a:Int) (b:Int)=((a ||| b:Nat):Int):=by
 unfold bor
 have h1:a≤a ||| b:=Nat.left_le_or
 have h2:b≤a ||| b:=Nat.right_le_or
 rw [BitVec.toNat_or,Jf8,Jf8,Nat.mod_eq_of_lt (by omega),Nat.mod_eq_of_lt (by omega)]
 exact J6h (by omega) (by omega)
theorem Jv1 (a:Nat) (ha:a < 9223372036854775808):band (a:Int) 127=((a % 128:Nat):Int):=by
 rw [show (127:Int)=((127:Nat):Int) from rfl,Jl3 a 127 ha (by omega),show (127:Nat)=2 ^ 7 - 1 from rfl,Nat.and_two_pow_sub_one_eq_mod]
theorem Jxb (a c k:Nat) (h:a < 2 ^ k):a ||| (c * 2 ^ k)=a+c * 2 ^ k:=by
 rw [Nat.or_comm,← Nat.shiftLeft_eq,← Nat.shiftLeft_add_eq_or_of_lt h,Nat.add_comm]
theorem K0v (a:Nat) (h:a < 128):bor (a:Int) 128=((a+128:Nat):Int):=by
 have e:=Jxb a 1 7 h
 rw [show (128:Int)=((128:Nat):Int) from rfl,Jvd a 128 (by simp only [Nat.one_mul] at e; rw [show (128:Nat)=2 ^ 7 from rfl,e]; omega)]
 simp only [Nat.one_mul] at e
 rw [show (128:Nat)=2 ^ 7 from rfl,e]
theorem Jrs (a k:Nat) (hk:k≤64):ishr (a:Int) k=((a / 2 ^ k:Nat):Int):=by
 unfold ishr
 rw [Nat.min_eq_left hk,Int.fdiv_eq_ediv_of_nonneg _ (by exact_mod_cast Nat.zero_le _)]
 exact_mod_cast rfl
theorem K9 (a k:Nat) (hk:k≤64) (h:a * 2 ^ k < 9223372036854775808):ishl (a:Int) k=((a * 2 ^ k:Nat):Int):=by
 unfold ishl
 rw [Nat.min_eq_left hk]
 have e:(a:Int) * 2 ^ k=((a * 2 ^ k:Nat):Int):=by exact_mod_cast rfl
 rw [e]
 exact J6h (by omega) (by omega)
theorem u8_and127 (b:UInt8):(b &&& 127).toNat=b.toNat % 128:=by
 rw [UInt8.toNat_and,show (127:UInt8).toNat=2 ^ 7 - 1 from rfl,Nat.and_two_pow_sub_one_eq_mod]
theorem J97 (a:Nat):UInt8.ofNat (Int.toNat ((a:Int) % 256))=UInt8.ofNat a:=by
 rw [show Int.toNat ((a:Int) % 256)=a % 256 from by omega]
 apply UInt8.toNat_inj.1
 simp
def putF:Nat→Nat→List UInt8
 | 0,n=>[UInt8.ofNat n]
 | f+1,n=>if n < 128 then [UInt8.ofNat n] else UInt8.ofNat (n % 128+128)::putF f (n / 128)
def oneS (n:Int):List UInt8:=if 0≤n∧n≤1099511627775 then putF 6 n.toNat else []
theorem Jmk:∀ (f n:Nat),(putF f n).length≤f+1
 | 0,_=>by simp [putF]
 | f+1,n=>by
  rw [putF]; split
  ·simp
  ·have:=Jmk f (n / 128); simp; omega
theorem J7t (n:Int):(oneS n).length≤7:=by
 unfold oneS; split
 ·exact Jmk 6 _
 ·simp
theorem Js5:∀ (f n:Nat) (acc:List UInt8),n < 128 ^ (f+1)→n < 9223372036854775808→acc.length≤1000 - f→f≤10→∃ (m:Nat) (l:List UInt8),J1f_1 (n:Int) acc=some ((m:Int),acc++l)∧l++[UInt8.ofNat m]=putF f n∧(acc++l).length≤1000
 | 0,n,acc,h,h2,ha,_=>by
  refine ⟨n,[],?_,rfl,by simp; omega⟩
  rw [List.append_nil]
  unfold J1f_1
  refine J70 ?_
  show J1f_1_step (n:Int) acc=_
  unfold J1f_1_step
  rw [J6e (by omega)]
 | f+1,n,acc,h,h2,ha,hf=>by
  by_cases hn:n < 128
  ·refine ⟨n,[],?_,by rw [putF,if_pos hn]; rfl,by simp; omega⟩
   rw [List.append_nil]
   unfold J1f_1
   refine J70 ?_
   show J1f_1_step (n:Int) acc=_
   unfold J1f_1_step
   rw [J6e (by omega)]
  ·have hs:J1f_1_step (n:Int) acc=some (.inl (((n / 128:Nat):Int),acc++[UInt8.ofNat (n % 128+128)])):=by
    unfold J1f_1_step
    rw [J6g (by omega),J6d (by simp; omega),Jv1 n (by omega),K0v _ (by omega),J97,show Int.toNat 7=7 from rfl,Jrs n 7 (by omega)]
   have hd:n / 128 < 128 ^ (f+1):=by
    rw [Nat.div_lt_iff_lt_mul (by omega)]
    have:128 ^ (f+1+1)=128 ^ (f+1) * 128:=Nat.pow_succ ..
    omega
   obtain ⟨m,l,h4,h5,h6⟩:=Js5 f (n / 128) (acc++[UInt8.ofNat (n % 128+128)]) hd (by omega) (by simp; omega) (by omega)
   refine ⟨m,UInt8.ofNat (n % 128+128)::l,?_,?_,?_⟩
   ·unfold J1f_1 at h4 ⊢
    rw [J76 (s':=(((n / 128:Nat):Int),acc++[UInt8.ofNat (n % 128+128)])) hs,h4]
    simp
   ·rw [putF,if_neg hn,← h5]; rfl
   ·simpa using h6
theorem Jxa (n:Int):J1f n=some (oneS n):=by
 unfold J1f oneS
 by_cases h0:n < 0
 ·rw [J6g h0,if_neg (by omega)]
 ·rw [J6e h0]
  by_cases h1:1099511627775 < n
  ·rw [J6g h1,if_neg (by omega)]
  ·rw [J6e h1,if_pos (by omega)]
   obtain ⟨k,rfl⟩:=Int.eq_ofNat_of_zero_le (show 0≤n by omega)
   obtain ⟨m,l,h2,h3,h4⟩:=Js5 6 k [] (by omega) (by omega) (by simp) (by omega)
   rw [h2,J6c]
   simp only [List.nil_append] at h4 ⊢
   rw [J6d (by simp; omega),J97,h3]
   rfl
def putS (l:List Int):List UInt8:=l.flatMap oneS
theorem Jml:∀ (l:List Int),(putS l).length≤7 * l.length
 | []=>by simp [putS]
 | n::l=>by
  have:=Jml l
  have h:=J7t n
  unfold putS at this ⊢
  rw [List.flatMap_cons,List.length_append,List.length_cons]; omega
theorem Jb6 {α β:Type} (f:α→List β) (l:List α) (z:α) {i:Nat} (h:i < l.length):(l.take (i+1)).flatMap f=(l.take i).flatMap f++f (l.getD i z):=by
 rw [List.take_add_one,List.flatMap_append,List.getD_eq_getElem?_getD]
 congr 1
 rw [List.getElem?_eq_getElem h]
 simp only [Option.toList_some,Option.getD_some,List.flatMap_cons,List.flatMap_nil,List.append_nil]
theorem put_eq (l:List Int) (hl:l.length≤100000000):J0u l=some (putS l):=by
 have main:J0u_1 l (l.length:Int) 0 []=some (putS l):=by
  unfold J0u_1
  have:=J6o (step:=fun (s:Int×List UInt8)=>J0u_1_step l (l.length:Int) s.1 s.2) (fun i (_:Unit)=>((i:Int),putS (l.take i))) (fun _ _=>()) (fun _=>putS l) l.length (fun _ _=>True) (fun i w hi _=>⟨?_,trivial⟩) (fun w _=>?_) l.length 0 () (by omega) trivial
  ·exact this
  ·show J0u_1_step l (l.length:Int) (i:Int) (putS (l.take i))=_
   unfold J0u_1_step
   have b:=Jml (l.take i)
   have b2:=J7t (l.getD i 0)
   rw [List.length_take] at b
   rw [J6g (by omega),J6d (by omega),Jxa,J6c,Int.toNat_natCast,J6d (by omega),J6h (by omega) (by omega)]
   unfold putS
   rw [Jb6 oneS l 0 hi]
   rfl
  ·show J0u_1_step l (l.length:Int) (l.length:Int) (putS (l.take l.length))=_
   unfold J0u_1_step
   rw [J6e (by omega),List.take_of_length_le (Nat.le_refl _)]
 unfold J0u
 rw [main,J6c]
theorem Jwk (l:List (List UInt8)) (hl:l.length≤1000000) (h:∀ x ∈ l,x.length=32):J1b l=some l.flatten:=by
 have hlen:∀ i,((l.take i).flatten).length≤32 * l.length:=by
  intro i
  have:∀ (m:List (List UInt8)),(∀ x ∈ m,x.length=32)→m.flatten.length=32 * m.length:=by
   intro m
   induction m with
   | nil=>intro _; rfl
   | cons a m ih=>intro hm; rw [List.flatten_cons,List.length_append,ih (fun x hx=>hm x (List.mem_cons_of_mem _ hx)),hm a List.mem_cons_self,List.length_cons]; omega
  rw [this _ fun x hx=>h x (List.mem_of_mem_take hx),List.length_take]; omega
 have main:J1b_1 l (l.length:Int) 0 []=some l.flatten:=by
  unfold J1b_1
  have:=J6o (step:=fun (s:Int×List UInt8)=>J1b_1_step l (l.length:Int) s.1 s.2) (fun i (_:Unit)=>((i:Int),(l.take i).flatten)) (fun _ _=>()) (fun _=>l.flatten) l.length (fun _ _=>True) (fun i w hi _=>⟨?_,trivial⟩) (fun w _=>?_) l.length 0 () (by omega) trivial
  ·exact this
  ·show J1b_1_step l (l.length:Int) (i:Int) (l.take i).flatten=_
   unfold J1b_1_step
   have b:=hlen i
   have hm:(l.getD i (List.replicate 32 0)).length=32:=h _ (by rw [List.getD_eq_getElem?_getD,List.getElem?_eq_getElem hi]; exact List.getElem_mem _)
   have e:=Jb6 (fun x:List UInt8=>x) l (List.replicate 32 0) hi
   simp only [List.flatMap_id'] at e
   rw [J6g (by omega),J6d (by omega),Int.toNat_natCast,J6d (by omega),J6h (by omega) (by omega),e]
   rfl
  ·show J1b_1_step l (l.length:Int) (l.length:Int) (l.take l.length).flatten=_
   unfold J1b_1_step
   rw [J6e (by omega),List.take_of_length_le (Nat.le_refl _)]
 unfold J1b
 rw [main,J6c]
abbrev Rdr:=List UInt8×Bool×Unit
def K0i (n:Nat) (r:Rdr):List UInt8×Rdr:=if r.2.1 then ([],(r.1,true,())) else if r.1.length < n then ([],(r.1,true,())) else (r.1.take n,(r.1.drop n,false,()))
theorem Jr2 (n:Nat) (hn:n≤1000) (r:Rdr):J3f (n:Int) r=some (K0i n r):=by
 obtain ⟨l,b,u⟩:=r
 unfold J3f K0i
 cases b with
 | true=>rfl
 | false=>
  simp only [J6j,Bool.false_eq_true,if_false]
  by_cases h:l.length < n
  ·rw [J6g (by omega),if_pos h]
  ·rw [J6e (by omega),if_neg h,J6d (by omega),J6d (by omega)]
   have e1:cutL l 0 (n:Int)=l.take n:=by rw [Jet,Int.toNat_natCast]
   have e2:cutL l (n:Int) (l.length:Int)=l.drop n:=by rw [J8z,Int.toNat_natCast]
   rw [e1,e2]
def numF:Nat→Nat→Nat→List UInt8→Int×Rdr
 | 0,_,_,l=>(0,l,true,())
 | k+1,i,acc,[]=>(0,[],true,())
 | k+1,i,acc,b::l=>if b.toNat < 128 then (if 1099511627775 < acc+b.toNat * 128 ^ i∨(b=0∧0 < i) then (0,l,true,()) else (((acc+b.toNat * 128 ^ i:Nat):Int),l,false,()))
   else numF k (i+1) (acc+(b.toNat % 128) * 128 ^ i) l
def numS (r:Rdr):Int×Rdr:=if r.2.1 then (0,(r.1,true,())) else numF 6 0 0 r.1
theorem Js3:∀ (k i acc:Nat) (l:List UInt8),i+k=6→acc < 128 ^ i→
  (match Jb_1 (acc:Int) ((7 * i:Nat):Int) (l,false,()) with | some (.inl o)=>some (o.1,o.2) | some (.inr o)=>some ((0:Int),(o.1,true,())) | none=>none)=some (numF k i acc l)
 | 0,i,acc,l,hi,ha=>by
  have:i=6:=by omega
  subst this
  have:Jb_1 (acc:Int) ((7 * 6:Nat):Int) (l,false,())=some (.inr (l,false,())):=by
   unfold Jb_1
   refine J70 ?_
   show Jb_1_step (acc:Int) ((7 * 6:Nat):Int) (l,false,())=_
   unfold Jb_1_step
   rw [J6e (by omega)]
  rw [this]; rfl
 | k+1,i,acc,[],hi,ha=>by
  have:Jb_1 (acc:Int) ((7 * i:Nat):Int) ([],false,())=some (.inl (0,([],true,()))):=by
   unfold Jb_1
   refine J70 ?_
   show Jb_1_step (acc:Int) ((7 * i:Nat):Int) ([],false,())=_
   unfold Jb_1_step
   rw [J6g (by omega),show (1:Int)=((1:Nat):Int) from rfl,Jr2 1 (by omega),J6c]
   rfl
  rw [this]; rfl
 | k+1,i,acc,b::l,hi,ha=>by
  have hp:128 ^ i=2 ^ (7 * i):=by rw [Nat.pow_mul]
  have hb:=b.toNat_lt
  have hpi:128 ^ i≤128 ^ 5:=Nat.pow_le_pow_right (by omega) (by omega)
  have hpow:128 ^ (i+1)=128 ^ i * 128:=Nat.pow_succ ..
  have hm:(b.toNat % 128) * 128 ^ i≤127 * 128 ^ i:=Nat.mul_le_mul_right _ (by omega)
  have e:bor (acc:Int) (ishl ((UInt8.toNat (b &&& 127):Nat):Int) (7 * i))=((acc+(b.toNat % 128) * 128 ^ i:Nat):Int):=by
   rw [u8_and127,K9 _ _ (by omega) (by rw [← hp]; omega),hp]
   have ho:=Jxb acc (b.toNat % 128) (7 * i) (by rw [← hp]; exact ha)
   rw [Jvd _ _ (by rw [ho,← hp]; omega),ho]
  have ht:K0i 1 (b::l,false,())=([b],(l,false,())):=by
   unfold K0i
   rw [if_neg (by simp),if_neg (by simp)]; rfl
  have step:∀ r,Jb_1_step (acc:Int) ((7 * i:Nat):Int) (b::l,false,())=some r↔(if b.toNat < 128 then (if 1099511627775 < acc+b.toNat * 128 ^ i then some (.inr (.inr (l,false,()))) else if b=0 then (if 0 < i then some (.inr (.inr (l,false,()))) else some (.inr (.inl (((acc+b.toNat * 128 ^ i:Nat):Int),l,false,())))) else some (.inr (.inl (((acc+b.toNat * 128 ^ i:Nat):Int),l,false,())))) else some (.inl (((acc+(b.toNat % 128) * 128 ^ i:Nat):Int),((7 * (i+1):Nat):Int),(l,false,()))))=some r:=by
   intro r
   unfold Jb_1_step
   rw [J6g (by omega),show (1:Int)=((1:Nat):Int) from rfl,Jr2 1 (by omega),J6c,ht]
   simp only [List.length_cons,List.length_nil,Int.toNat_zero,List.getD_cons_zero,Int.toNat_natCast,e]
   rw [J6e (by omega),J6d (by omega),J6d (by omega),J6h (by omega) (by omega)]
   by_cases h1:b.toNat < 128
   ·have hlt:b < 128:=UInt8.lt_iff_toNat_lt.2 h1
    rw [J6g hlt,if_pos h1,Nat.mod_eq_of_lt h1]
    by_cases h2:1099511627775 < acc+b.toNat * 128 ^ i
    ·rw [J6g (by omega),if_pos h2]
    ·rw [J6e (by omega),if_neg h2]
     by_cases h3:b=0
     ·rw [J6g h3,if_pos h3]
      by_cases h4:0 < i
      ·rw [J6g (by omega),if_pos h4]
      ·rw [J6e (by omega),if_neg h4]
     ·rw [J6e h3,if_neg h3]
   ·have hlt:¬ b < 128:=fun h=>h1 (UInt8.lt_iff_toNat_lt.1 h)
    rw [J6e hlt,if_neg h1,show ((7 * i:Nat):Int)+7=((7 * (i+1):Nat):Int) from by omega]
  rw [numF]
  by_cases h1:b.toNat < 128
  ·rw [if_pos h1]
   have go:∀ r,(if 1099511627775 < acc+b.toNat * 128 ^ i then some (.inr (.inr (l,false,()))) else if b=0 then (if 0 < i then some (.inr (.inr (l,false,()))) else some (.inr (.inl (((acc+b.toNat * 128 ^ i:Nat):Int),l,false,())))) else some (.inr (.inl (((acc+b.toNat * 128 ^ i:Nat):Int),l,false,()))))=some (.inr r:(Int×Int×Rdr)⊕((Int×Rdr)⊕Rdr))→
     Jb_1 (acc:Int) ((7 * i:Nat):Int) (b::l,false,())=some r:=by
    intro r hr
    unfold Jb_1
    refine J70 ?_
    refine (step _).2 ?_
    rw [if_pos h1]; exact hr
   by_cases h2:1099511627775 < acc+b.toNat * 128 ^ i
   ·rw [go (.inr (l,false,())) (if_pos h2),if_pos (Or.inl h2)]
   ·by_cases h3:b=0∧0 < i
    ·rw [go (.inr (l,false,())) (by rw [if_neg h2,if_pos h3.1,if_pos h3.2]),if_pos (Or.inr h3)]
    ·rw [go (.inl (((acc+b.toNat * 128 ^ i:Nat):Int),l,false,())) (by
      rw [if_neg h2]
      by_cases h4:b=0
      ·rw [if_pos h4,if_neg (fun h=>h3 ⟨h4,h⟩)]
      ·rw [if_neg h4]),if_neg (fun h=>h.elim h2 h3)]
  ·rw [if_neg h1,← Js3 k (i+1) (acc+(b.toNat % 128) * 128 ^ i) l (by omega) (by omega)]
   have hs:Jb_1_step (acc:Int) ((7 * i:Nat):Int) (b::l,false,())=some (.inl (((acc+(b.toNat % 128) * 128 ^ i:Nat):Int),((7 * (i+1):Nat):Int),(l,false,()))):=(step _).2 (by rw [if_neg h1])
   unfold Jb_1
   rw [J76 hs]
theorem number_eq (r:Rdr):Jb r=some (numS r):=by
 obtain ⟨l,b,u⟩:=r
 unfold Jb numS
 cases b with
 | true=>
  have:Jb_1 0 0 (l,true,())=some (.inl (0,(l,true,()))):=by
   unfold Jb_1
   refine J70 ?_
   show Jb_1_step 0 0 (l,true,())=_
   unfold Jb_1_step
   rw [J6g (by omega),show (1:Int)=((1:Nat):Int) from rfl,Jr2 1 (by omega),J6c]
   rfl
  rw [show ((l,true,u):Rdr)=(l,true,()) from rfl,this]; rfl
 | false=>
  have:=Js3 6 0 0 l rfl (by decide)
  rw [if_neg (by simp),← this]
  show andThen (Jb_1 0 0 (l,false,())) _=match Jb_1 0 0 (l,false,()) with | some (.inl o)=>_ | some (.inr o)=>_ | none=>_
  cases Jb_1 0 0 (l,false,()) with
  | none=>rfl
  | some o=>cases o <;> rfl
theorem Jkq {n:Nat} (h:n < 128):∀ f,putF f n=[UInt8.ofNat n]
 | 0=>rfl
 | f+1=>by rw [putF,if_pos h]
theorem Js2:∀ (f k i acc n:Nat) (rest:List UInt8),i+k=6→(0 < i→1≤n)→acc+n * 128 ^ i≤1099511627775→acc < 128 ^ i→k≤f+1→(n < 128→1≤k)→numF k i acc (putF f n++rest)=(((acc+n * 128 ^ i:Nat):Int),rest,false,())
 | f,k,i,acc,n,rest,hi,hn,hb,ha,hk,h1=>by
  by_cases hs:n < 128
  ·rw [Jkq hs f]
   obtain ⟨k,rfl⟩:∃ k',k=k'+1:=⟨k - 1,by have:=h1 hs; omega⟩
   show numF (k+1) i acc (UInt8.ofNat n::rest)=_
   have hb':(UInt8.ofNat n).toNat=n:=by rw [UInt8.toNat_ofNat']; omega
   rw [numF,hb',if_pos hs,if_neg]
   rintro (h | ⟨h,h0⟩)
   ·omega
   ·have:=hn h0
    rw [← UInt8.toNat_inj,hb'] at h
    have:n=0:=h
    omega
  ·have hpow:128 ^ (i+1)=128 ^ i * 128:=Nat.pow_succ ..
   have hi6:i < 5:=by
    rcases Nat.lt_or_ge i 5 with h | h
    ·exact h
    ·have:128 ^ 5≤128 ^ i:=Nat.pow_le_pow_right (by omega) h
     have:128 * 128 ^ i≤n * 128 ^ i:=Nat.mul_le_mul_right _ (by omega)
     omega
   obtain ⟨k,rfl⟩:∃ k',k=k'+1:=⟨k - 1,by omega⟩
   obtain ⟨f,rfl⟩:∃ f',f=f'+1:=⟨f - 1,by omega⟩
   rw [putF,if_neg hs,List.cons_append]
   have hb':(UInt8.ofNat (n % 128+128)).toNat=n % 128+128:=by rw [UInt8.toNat_ofNat']; omega
   rw [numF,hb',if_neg (by omega),show (n % 128+128) % 128=n % 128 from by omega]
   have he:acc+n % 128 * 128 ^ i+n / 128 * 128 ^ (i+1)=acc+n * 128 ^ i:=by
    have hn2:n * 128 ^ i=(n % 128+128 * (n / 128)) * 128 ^ i:=by congr 1; omega
    rw [hpow,hn2,Nat.add_mul,Nat.add_assoc]; congr 2; rw [Nat.mul_comm (128 ^ i) 128,← Nat.mul_assoc,Nat.mul_comm (n / 128) 128]
   have hm:(n % 128) * 128 ^ i≤127 * 128 ^ i:=Nat.mul_le_mul_right _ (by omega)
   rw [Js2 f k (i+1) _ (n / 128) rest (by omega) (fun _=>by omega) (by rw [he]; exact hb) (by omega) (by omega) (fun _=>by omega),he]
theorem Jx8 (n:Int) (h0:0≤n) (h1:n≤1099511627775) (rest:List UInt8):numS (oneS n++rest,false,())=(n,rest,false,()):=by
 unfold numS oneS
 rw [if_neg (by simp),if_pos ⟨h0,h1⟩]
 have:=Js2 6 6 0 0 n.toNat rest rfl (fun h=>by omega) (by omega) (by decide) (by omega) (fun _=>by omega)
 rw [this]
 congr 1
 omega
abbrev Hdr:=Int×Int×List UInt8×List UInt8×List UInt8×List UInt8×Unit
def J8d (h:Hdr):Bool:=decide (1≤h.1) && (decide (h.1≤16) && (decide (0≤h.2.1) && decide (h.2.1≤1073741824)))
theorem Jcy (h:Hdr):J3a h=some (J8d h):=by
 unfold J3a J8d
 simp only [Jh6]
 cases decide (1≤h.1) <;> cases decide (h.1≤16) <;> cases decide (0≤h.2.1) <;> simp
theorem Jc1 (h:Hdr):J8d h=true↔(1≤h.1∧h.1≤16)∧0≤h.2.1∧h.2.1≤1073741824:=by
 unfold J8d
 simp only [Bool.and_eq_true,decide_eq_true_eq]
 exact ⟨fun ⟨a,b,c,d⟩=>⟨⟨a,b⟩,c,d⟩,fun ⟨⟨a,b⟩,c,d⟩=>⟨a,b,c,d⟩⟩
def J8q (h:Hdr):Prop:=h.2.2.1.length=32∧h.2.2.2.1.length=32∧h.2.2.2.2.1.length=32∧h.2.2.2.2.2.1.length=32
def Jfw (h:Hdr):List UInt8:=oneS h.1++(oneS h.2.1++(h.2.2.1++(h.2.2.2.1++(h.2.2.2.2.1++h.2.2.2.2.2.1))))
def Jc8 (h:Hdr):List UInt8:=if J8d h then Jfw h else []
theorem Jz9 (h:Hdr) (hh:J8q h):J5p h=some (Jc8 h):=by
 obtain ⟨a,b,c,d⟩:=hh
 unfold J5p Jc8
 rw [Jcy,J6c]
 cases J8d h with
 | false=>rfl
 | true=>
  rw [show (!true)=false from rfl,J6j,put_eq _ (by simp),J6c,Jwk _ (by simp) (by
   intro x hx
   simp only [List.mem_cons,List.not_mem_nil,or_false] at hx
   rcases hx with rfl | rfl | rfl | rfl <;> assumption),J6c]
  have l1:=Jml [h.1,h.2.1]
  simp only [List.length_cons,List.length_nil] at l1
  rw [J6d (by simp; omega),if_pos rfl]
  congr 1
  simp [putS,Jfw,List.flatMap_cons]
theorem Jrb (h:Hdr) (hh:J8q h):(Jfw h).length≤142:=by
 obtain ⟨a,b,c,d⟩:=hh
 have:=J7t h.1
 have:=J7t h.2.1
 unfold Jfw
 simp only [List.length_append]; omega
def zHdr:Hdr:=(0,0,List.replicate 32 0,List.replicate 32 0,List.replicate 32 0,List.replicate 32 0,())
theorem doneS (r:Rdr):J3e r=some (!r.2.1 && decide (r.1=[])):=by
 unfold J3e
 obtain ⟨l,b,u⟩:=r
 cases b with
 | true=>rfl
 | false=>
  show some (decide ((l.length:Int)=0))=some (true && decide (l=[]))
  rw [Bool.true_and]
  congr 1
  exact decide_eq_decide.2 ⟨fun h=>List.eq_nil_of_length_eq_zero (by omega),fun h=>by subst h; rfl⟩
set_option maxRecDepth 100000
def rotr (x:UInt32) (n:Nat):UInt32:=UInt32.ofNat (x.toNat <<< (32 - n)) ||| UInt32.ofNat (x.toNat >>> n)
def shr (x:UInt32) (n:Nat):UInt32:=UInt32.ofNat (x.toNat >>> n)
def K21 (b:List UInt8) (i k:Nat):UInt32:=UInt32.ofNat (UInt32.toNat (UInt32.ofNat (UInt8.toNat (List.getD b i 0))) <<< k)
def word (b:List UInt8) (i:Nat):UInt32:=((K21 b (4 * i) 24 ||| K21 b (4 * i+1) 16) ||| K21 b (4 * i+2) 8) ||| UInt32.ofNat (UInt8.toNat (List.getD b (4 * i+3) 0))
def Jr0 (b:List UInt8) (i:Nat) (w:List UInt32):List UInt32:=w.set i (word b i)
def Jr1 (i:Nat) (w:List UInt32):List UInt32:=
 w.set i (((w.getD (i - 16) 0+((rotr (w.getD (i - 15) 0) 7 ^^^ rotr (w.getD (i - 15) 0) 18) ^^^ shr (w.getD (i - 15) 0) 3))+w.getD (i - 7) 0)+((rotr (w.getD (i - 2) 0) 17 ^^^ rotr (w.getD (i - 2) 0) 19) ^^^ shr (w.getD (i - 2) 0) 10))
def Jej (b:List UInt8):List UInt32:=J77 Jr1 16 48 (J77 (Jr0 b) 0 16 (List.replicate 64 0))
abbrev W8:=UInt32×UInt32×UInt32×UInt32×UInt32×UInt32×UInt32×UInt32
def J8a (k w:List UInt32) (i:Nat) (s:W8):W8:=
 match s with
 | (a,b,c,d,e,f,g,h)=>
  let one:=(((h+((rotr e 6 ^^^ rotr e 11) ^^^ rotr e 25))+((e &&& f) ^^^ ((~~~e) &&& g)))+k.getD i 0)+w.getD i 0
  (one+(((rotr a 2 ^^^ rotr a 13) ^^^ rotr a 22)+(((a &&& b) ^^^ (a &&& c)) ^^^ (b &&& c))),a,b,c,d+one,e,f,g)
def Ju0 (s:W8):List UInt32:=[s.1,s.2.1,s.2.2.1,s.2.2.2.1,s.2.2.2.2.1,s.2.2.2.2.2.1,s.2.2.2.2.2.2.1,s.2.2.2.2.2.2.2]
def tup8 (h:List UInt32):W8:=(h.getD 0 0,h.getD 1 0,h.getD 2 0,h.getD 3 0,h.getD 4 0,h.getD 5 0,h.getD 6 0,h.getD 7 0)
def addS (v:List UInt32) (i:Nat) (h:List UInt32):List UInt32:=h.set i (h.getD i 0+v.getD i 0)
def mixS (k:List UInt32) (b:List UInt8) (h:List UInt32):List UInt32:=
 J77 (addS (Ju0 (J77 (J8a k (Jej b)) 0 64 (tup8 h)))) 0 8 h
def kS:List UInt32:=[1116352408,1899447441,3049323471,3921009573,961987163,1508970993,2453635748,2870763221,3624381080,310598401,607225278,1426881987,1925078388,2162078206,2614888103,3248222580,3835390401,4022224774,264347078,604807628,770255983,1249150122,1555081692,1996064986,2554220882,2821834349,2952996808,3210313671,3336571891,3584528711,113926993,338241895,666307205,773529912,1294757372,1396182291,1695183700,1986661051,2177026350,2456956037,2730485921,2820302411,3259730800,3345764771,3516065817,3600352804,4094571909,275423344,430227734,506948616,659060556,883997877,958139571,1322822218,1537002063,1747873779,1955562222,2024104815,2227730452,2361852424,2428436474,2756734187,3204031479,3329325298]
def h0S:List UInt32:=[1779033703,3144134277,1013904242,2773480762,1359893119,2600822924,528734635,1541459225]
def Jb3 (n:UInt64) (i:Nat):UInt8:=UInt8.ofNat (UInt64.toNat (UInt64.ofNat (UInt64.toNat n >>> (8 * i))))
def bitsOf (b:List UInt8):UInt64:=UInt64.ofNat b.length * 8
def padS (b:List UInt8):List UInt8:=
 b++128::(List.replicate ((b.length+8) / 64 * 64+55 - b.length) 0++[Jb3 (bitsOf b) 7,Jb3 (bitsOf b) 6,Jb3 (bitsOf b) 5,Jb3 (bitsOf b) 4,Jb3 (bitsOf b) 3,Jb3 (bitsOf b) 2,Jb3 (bitsOf b) 1,Jb3 (bitsOf b) 0])
def Jbn:Nat→List UInt8→List UInt32→List UInt32
 | 0,_,h=>h
 | n+1,l,h=>Jbn n (l.drop 64) (mixS kS (l.take 64) h)
def outB (x:UInt32) (j:Nat):UInt8:=UInt8.ofNat (UInt32.toNat (UInt32.ofNat (UInt32.toNat x >>> (24 - 8 * j))))
def outS (h:List UInt32):List UInt8:=h.flatMap fun x=>[outB x 0,outB x 1,outB x 2,outB x 3]
def sha (b:List UInt8):List UInt8:=outS (Jbn ((b.length+8) / 64+1) (padS b) h0S)
theorem right7 (x:UInt32):J0q x 7=some (rotr x 7):=rfl
theorem K3g (x:UInt32):J0q x 18=some (rotr x 18):=rfl
theorem K3f (x:UInt32):J0q x 17=some (rotr x 17):=rfl
theorem K3h (x:UInt32):J0q x 19=some (rotr x 19):=rfl
theorem right6 (x:UInt32):J0q x 6=some (rotr x 6):=rfl
theorem K3d (x:UInt32):J0q x 11=some (rotr x 11):=rfl
theorem K3j (x:UInt32):J0q x 25=some (rotr x 25):=rfl
theorem right2 (x:UInt32):J0q x 2=some (rotr x 2):=rfl
theorem K3e (x:UInt32):J0q x 13=some (rotr x 13):=rfl
theorem K3i (x:UInt32):J0q x 22=some (rotr x 22):=rfl
theorem Jp6 (b:List UInt8) (hb:b.length=64) (z w:List UInt32) {i:Nat} (hi:i < 16) :
  J0e_1_step b (i:Int) z w=some (.inl (((i+1:Nat):Int),Jr0 b i w)):=by
 unfold J0e_1_step
 have e0:Int.toNat (4 * (i:Int))=4 * i:=by omega
 have e1:Int.toNat (4 * (i:Int)+1)=4 * i+1:=by omega
 have e2:Int.toNat (4 * (i:Int)+2)=4 * i+2:=by omega
 have e3:Int.toNat (4 * (i:Int)+3)=4 * i+3:=by omega
 simp (disch:=omega) only [J6g,J6h,J6d,hb,e0,e1,e2,e3,Int.toNat_natCast]
 rfl
theorem K0g (b:List UInt8) (hb:b.length=64) (z:List UInt32):J0e_1 b 0 z z=some (z,J77 (Jr0 b) 0 16 z):=by
 unfold J0e_1
 refine J6o (fun i w=>((i:Int),w)) (Jr0 b) (fun w=>(z,w)) 16 (fun _ _=>True) (fun i w hi _=>⟨Jp6 b hb z w hi,trivial⟩) (fun w _=>?_) 16 0 z rfl trivial
 unfold J0e_1_step
 rfl
theorem Jp7 (z w:List UInt32) {i:Nat} (h1:16≤i) (hi:i < 64) :
  J0e_2_step (i:Int) z w=some (.inl (((i+1:Nat):Int),Jr1 i w)):=by
 unfold J0e_2_step
 have e0:Int.toNat ((i:Int) - 15)=i - 15:=by omega
 have e1:Int.toNat ((i:Int) - 2)=i - 2:=by omega
 have e2:Int.toNat ((i:Int) - 16)=i - 16:=by omega
 have e3:Int.toNat ((i:Int) - 7)=i - 7:=by omega
 simp (disch:=omega) only [J6g,J6h,J6d,e0,e1,e2,e3,Int.toNat_natCast,right7,K3g,K3f,K3h,J6c]
 rfl
theorem K0h (z w:List UInt32):J0e_2 16 z w=some (z,J77 Jr1 16 48 w):=by
 unfold J0e_2
 refine J6o (fun i w=>((i:Int),w)) Jr1 (fun w=>(z,w)) 64 (fun i _=>16≤i) (fun i w hi h=>⟨Jp7 z w h hi,by omega⟩) (fun w _=>?_) 48 16 w rfl (Nat.le_refl _)
 unfold J0e_2_step
 rfl
theorem Jye (b:List UInt8) (hb:b.length=64):J0e b=some (Jej b):=by
 unfold J0e
 rw [K0g b hb,J6c,K0h,J6c,Jej]
theorem Jx2 (k w hz:List UInt32) (s:W8) {i:Nat} (hi:i < 64) :
  J04_1_step s.1 s.2.1 s.2.2.1 s.2.2.2.1 s.2.2.2.2.1 s.2.2.2.2.2.1 s.2.2.2.2.2.2.1 s.2.2.2.2.2.2.2 (i:Int) hz k w =
   some (.inl ((J8a k w i s).1,(J8a k w i s).2.1,(J8a k w i s).2.2.1,(J8a k w i s).2.2.2.1,(J8a k w i s).2.2.2.2.1,(J8a k w i s).2.2.2.2.2.1,(J8a k w i s).2.2.2.2.2.2.1,(J8a k w i s).2.2.2.2.2.2.2,((i+1:Nat):Int))):=by
 obtain ⟨a,b,c,d,e,f,g,h⟩:=s
 unfold J04_1_step
 simp (disch:=omega) only [J6g,J6h,J6d,Int.toNat_natCast,right6,K3d,K3j,right2,K3e,K3i,J6c]
 rfl
theorem mix_1 (k w hz:List UInt32) (s:W8):J04_1 s.1 s.2.1 s.2.2.1 s.2.2.2.1 s.2.2.2.2.1 s.2.2.2.2.2.1 s.2.2.2.2.2.2.1 s.2.2.2.2.2.2.2 0 hz k w =
   some ((J77 (J8a k w) 0 64 s).1,(J77 (J8a k w) 0 64 s).2.1,(J77 (J8a k w) 0 64 s).2.2.1,(J77 (J8a k w) 0 64 s).2.2.2.1,(J77 (J8a k w) 0 64 s).2.2.2.2.1,(J77 (J8a k w) 0 64 s).2.2.2.2.2.1,(J77 (J8a k w) 0 64 s).2.2.2.2.2.2.1,(J77 (J8a k w) 0 64 s).2.2.2.2.2.2.2,hz,k):=by
 unfold J04_1
 refine J6o (fun i (s:W8)=>(s.1,s.2.1,s.2.2.1,s.2.2.2.1,s.2.2.2.2.1,s.2.2.2.2.2.1,s.2.2.2.2.2.2.1,s.2.2.2.2.2.2.2,(i:Int))) (J8a k w)
  (fun (s:W8)=>(s.1,s.2.1,s.2.2.1,s.2.2.2.1,s.2.2.2.2.1,s.2.2.2.2.2.1,s.2.2.2.2.2.2.1,s.2.2.2.2.2.2.2,hz,k)) 64 (fun _ _=>True) (fun i s hi _=>⟨Jx2 k w hz s hi,trivial⟩) (fun s _=>?_) 64 0 s rfl trivial
 unfold J04_1_step
 rfl
theorem mix_2 (v h k:List UInt32):J04_2 v 0 h k=some (J77 (addS v) 0 8 h,k):=by
 unfold J04_2
 refine J6o (fun i w=>((i:Int),w)) (addS v) (fun w=>(w,k)) 8 (fun _ _=>True) (fun i w hi _=>⟨?_,trivial⟩) (fun w _=>?_) 8 0 h rfl trivial
 ·unfold J04_2_step
  simp (disch:=omega) only [J6g,J6h,J6d,Int.toNat_natCast]
  rfl
 ·unfold J04_2_step
  rfl
theorem mix_eq (b:List UInt8) (hb:b.length=64) (h k:List UInt32):J04 b h k=some (mixS k b h,k):=by
 unfold J04
 rw [Jye b hb,J6c]
 have:=mix_1 k (Jej b) h (tup8 h)
 simp only [tup8] at this
 rw [show (Int.toNat (0:Int))=0 from rfl,show (Int.toNat (1:Int))=1 from rfl,show (Int.toNat (2:Int))=2 from rfl,show (Int.toNat (3:Int))=3 from rfl,show (Int.toNat (4:Int))=4 from rfl,
  show (Int.toNat (5:Int))=5 from rfl,show (Int.toNat (6:Int))=6 from rfl,show (Int.toNat (7:Int))=7 from rfl,this,J6c,mix_2,J6c]
 rfl
set_option maxRecDepth 100000
theorem Jvc (n:Nat) (h:n≤1073741824):J5q (n:Int)=some (((n+8) / 64+1:Nat):Int):=by
 unfold J5q
 have e:Int.tdiv ((n:Int)+8) 64=(((n+8) / 64:Nat):Int):=by
  rw [Int.tdiv_eq_ediv_of_nonneg (by omega)]; omega
 simp (disch:=omega) only [J6h,e]
 rfl
theorem Jqx {α:Type} (a l:List α) (k:Nat) (x:α):(a++l).set (a.length+k) x=a++l.set k x:=by
 rw [List.set_append_right _ _ (by omega)]
 congr 2; omega
theorem Jqn (x0:UInt64) (n:Nat) (hn:8≤n) (hn2:n≤2147483648) (l:List UInt8) (hl:l.length=n):J1q_1 x0 0 l=some (J77 (fun i (w:List UInt8)=>w.set (n - 1 - i) (Jb3 x0 i)) 0 8 l):=by
 unfold J1q_1
 refine J6o (fun i w=>((i:Int),w)) (fun i (w:List UInt8)=>w.set (n - 1 - i) (Jb3 x0 i)) (fun w=>w) 8 (fun _ w=>w.length=n) (fun i w hi hw=>⟨?_,by simp [hw]⟩) (fun w _=>?_) 8 0 l rfl hl
 ·unfold J1q_1_step
  have e0:Int.toNat ((n:Int) - 1 - (i:Int))=n - 1 - i:=by omega
  have e1:Int.toNat (8 * (i:Int))=8 * i:=by omega
  simp (disch:=omega) only [J6g,J6h,J6d,hw,e0,e1]
  rfl
 ·unfold J1q_1_step
  rfl
theorem Jxi (b:List UInt8) (hb:b.length≤1073741824):J1q b=some (padS b):=by
 unfold J1q
 rw [Jvc _ hb,J6c]
 have hN:w64 ((((b.length+8) / 64+1:Nat):Int) * 64)=(((b.length+8) / 64 * 64+64:Nat):Int):=by
  rw [J6h (by omega) (by omega)]; omega
 generalize hn:(b.length+8) / 64 * 64+64=n at hN
 rw [hN,J6d (by omega),Int.toNat_natCast,List.length_replicate,List.take_of_length_le (by omega),List.drop_replicate]
 have hz:n - b.length=((b.length+8) / 64 * 64+55 - b.length)+1+8:=by omega
 have hl:(b++List.replicate (n - b.length) (0:UInt8)).length=n:=by simp; omega
 rw [hl,J6d (by omega),Int.toNat_natCast]
 have hbits:UInt64.ofNat (Int.toNat ((b.length:Int) % 18446744073709551616)) * 8=bitsOf b:=by
  unfold bitsOf; congr 2; omega
 rw [hbits,Jqn (bitsOf b) n (by omega) (by omega) _ (by rw [List.length_set,hl]),J6c]
 congr 1
 have h1:(b++List.replicate (n - b.length) (0:UInt8)).set b.length 128=(b++128::List.replicate ((b.length+8) / 64 * 64+55 - b.length) 0)++[0,0,0,0,0,0,0,0]:=by
  rw [hz]
  generalize (b.length+8) / 64 * 64+55 - b.length=z
  have h:=Jqx b (List.replicate ((z+8)+1) (0:UInt8)) 0 128
  rw [Nat.add_zero b.length] at h
  rw [show z+1+8=(z+8)+1 from by omega,h,List.replicate_succ,List.set_cons_zero,← List.replicate_append_replicate,List.append_assoc]
  rfl
 rw [h1]
 have hA:(b++128::List.replicate ((b.length+8) / 64 * 64+55 - b.length) (0:UInt8)).length=n - 8:=by simp; omega
 generalize hA2:(b++128::List.replicate ((b.length+8) / 64 * 64+55 - b.length) (0:UInt8))=A at hA
 have ix:∀ i,i < 8→n - 1 - i=A.length+(7 - i):=by intro i hi; omega
 simp only [J77]
 rw [ix 0 (by omega),ix (0+1) (by omega),ix (0+1+1) (by omega),ix (0+1+1+1) (by omega),ix (0+1+1+1+1) (by omega),ix (0+1+1+1+1+1) (by omega),ix (0+1+1+1+1+1+1) (by omega),ix (0+1+1+1+1+1+1+1) (by omega)]
 simp only [Jqx]
 unfold padS
 rw [show ∀ x:List UInt8,b++128::(List.replicate ((b.length+8) / 64 * 64+55 - b.length) 0++x)=A++x from fun x=>by rw [← hA2]; simp]
 rfl
theorem Jqm (b:List UInt8):(padS b).length=64 * ((b.length+8) / 64+1):=by
 unfold padS
 simp
 omega
theorem Jku {α:Type} {f:Nat→List α→List α} (h:∀ i w,(f i w).length=w.length):∀ (k i:Nat) (w:List α),(J77 f i k w).length=w.length
 | 0,_,_=>rfl
 | k+1,i,w=>by rw [J77,Jku h k,h]
theorem Js0 (k:List UInt32) (b:List UInt8) (h:List UInt32):(mixS k b h).length=h.length:=Jku (fun i w=>by simp [addS]) _ _ _
theorem Jbo:∀ (n:Nat) (l:List UInt8) (h:List UInt32),(Jbn n l h).length=h.length
 | 0,_,_=>rfl
 | n+1,l,h=>by rw [Jbn,Jbo n,Js0]
theorem sum_1 (out:List UInt8):∀ (n:Nat) (l:List UInt8),l.length=64 * n→l.length≤2147483648→∀ h,J0f_1 l out h kS=some (out,Jbn n l h)
 | 0,l,hl,_,h=>by
  unfold J0f_1
  refine J70 ?_
  unfold J0f_1_step
  show fork (decide ((0:Int) < (l.length:Int))) _ _=_
  rw [J6e (by omega)]; rfl
 | n+1,l,hl,hl2,h=>by
  have hm:=mix_eq (l.take 64) (by rw [List.length_take]; omega) h kS
  have hs:J0f_1_step l out h kS=some (.inl (l.drop 64,mixS kS (l.take 64) h,kS)):=by
   unfold J0f_1_step
   rw [J6g (by omega),J6d (by omega),show cutL l (0:Int) (64:Int)=l.take 64 from rfl,hm,J6c,J6d (by omega)]
   have:cutL l (64:Int) (l.length:Int)=l.drop 64:=by
    unfold cutL; rw [Int.toNat_natCast,List.take_of_length_le (Nat.le_refl _)]; rfl
   rw [this]
  have ih:=sum_1 out n (l.drop 64) (by rw [List.length_drop]; omega) (by rw [List.length_drop]; omega) (mixS kS (l.take 64) h)
  unfold J0f_1 at ih ⊢
  rw [J76 (s':=(l.drop 64,mixS kS (l.take 64) h,kS)) hs,ih]
  rfl
def Jom (x:UInt32) (i:Nat) (acc:List UInt8):List UInt8:=J77 (fun j (acc:List UInt8)=>acc.set (4 * i+j) (outB x j)) 0 4 acc
theorem sum_2 (x:UInt32) (h:List UInt32) (z acc:List UInt8) {i:Nat} (hi:i < 8):J0f_2 (i:Int) x h (i:Int) 0 z acc=some (h,(i:Int),z,Jom x i acc):=by
 unfold J0f_2
 refine J6o (fun j acc=>((j:Int),acc)) (fun j (acc:List UInt8)=>acc.set (4 * i+j) (outB x j)) (fun acc=>(h,(i:Int),z,acc)) 4 (fun _ _=>True) (fun j acc hj _=>⟨?_,trivial⟩) (fun acc _=>?_) 4 0 acc rfl trivial
 ·unfold J0f_2_step
  have e0:Int.toNat (4 * (i:Int)+(j:Int))=4 * i+j:=by omega
  have e1:Int.toNat (24 - 8 * (j:Int))=24 - 8 * j:=by omega
  simp (disch:=omega) only [J6g,J6h,J6d,e0,e1]
  rfl
 ·unfold J0f_2_step
  rfl
theorem sum_3 (h:List UInt32) (z acc:List UInt8):J0f_3 h 0 z acc=some (z,J77 (fun i acc=>Jom (h.getD i 0) i acc) 0 8 acc):=by
 unfold J0f_3
 refine J6o (fun i acc=>(h,(i:Int),z,acc)) (fun i acc=>Jom (h.getD i 0) i acc) (fun acc=>(z,acc)) 8 (fun _ _=>True) (fun i acc hi _=>⟨?_,trivial⟩) (fun acc _=>?_) 8 0 acc rfl trivial
 ·show J0f_3_step h (i:Int) z acc=_
  unfold J0f_3_step
  rw [J6g (by omega),J6d (by omega),Int.toNat_natCast,sum_2 _ _ _ _ hi,J6c]
  rw [J6h (by show (-9223372036854775808:Int)≤(i:Int)+1; omega) (by show (i:Int)+1≤9223372036854775807; omega)]
  rfl
 ·unfold J0f_3_step
  rfl
theorem K31 (a b c d e f g i:UInt32):J77 (fun j acc=>Jom (List.getD [a,b,c,d,e,f,g,i] j 0) j acc) 0 8 (List.replicate 32 (0:UInt8))=outS [a,b,c,d,e,f,g,i]:=by kernel_rfl
theorem out_eq (h:List UInt32) (hh:h.length=8):J77 (fun i acc=>Jom (h.getD i 0) i acc) 0 8 (List.replicate 32 (0:UInt8))=outS h:=by
 match h,hh with
 | [a,b,c,d,e,f,g,i],_=>exact K31 a b c d e f g i
theorem Jzv:J61=some h0S:=by kernel_rfl
theorem Jz2:J60=some kS:=by kernel_rfl
theorem sum_eq (b:List UInt8) (hb:b.length≤1073741824):J0f b=some (sha b):=by
 unfold J0f
 rw [Jzv,J6c,Jz2,J6c,Jxi b hb,J6c,sum_1 _ _ _ (Jqm b) (by rw [Jqm]; omega),J6c]
 simp only [sum_3,J6c]
 rw [out_eq _ (by rw [Jbo]; rfl)]
 rfl
theorem J81 (b:List UInt8):(sha b).length=32:=by
 unfold sha outS
 have:(Jbn ((b.length+8) / 64+1) (padS b) h0S).length=8:=by rw [Jbo]; rfl
 generalize Jbn ((b.length+8) / 64+1) (padS b) h0S=h at this
 match h,this with
 | [a,b,c,d,e,f,g,i],_=>rfl
theorem getD_take {α:Type} (l:List (List α)) {i:Nat} (h:i < l.length):(l.take i).flatten++l.getD i []=(l.take (i+1)).flatten:=by
 rw [List.take_add_one,List.flatten_append,List.getD_eq_getElem?_getD,List.getElem?_eq_getElem h]
 simp
theorem Jav {α:Type} (l:List (List α)) (i:Nat):((l.take i).flatten).length≤l.flatten.length:=by
 conv=>rhs; rw [← List.take_append_drop i l]
 rw [List.flatten_append,List.length_append]; omega
theorem J7w (t:UInt8) (l:List (List UInt8)) (h:l.flatten.length≤1073741823) (hl:l.length≤1073741823):Jy t l=some (sha (t::l.flatten)):=by
 unfold Jy
 have:∀ z,Jy_1 l (l.length:Int) 0 z [t]=some (z,t::l.flatten):=by
  intro z
  unfold Jy_1
  have:=J6o (step:=fun (s:Int×List UInt8)=>Jy_1_step l (l.length:Int) s.1 z s.2) (fun i (_:Unit)=>((i:Int),t::(l.take i).flatten)) (fun _ _=>()) (fun _=>(z,t::l.flatten)) l.length (fun _ _=>True) (fun i w hi _=>⟨?_,trivial⟩) (fun w _=>?_) l.length 0 () (by omega) trivial
  ·exact this
  ·unfold Jy_1_step
   have e:=getD_take l hi
   have le:=Jav l (i+1)
   rw [← e,List.length_append] at le
   simp (disch:=omega) only [J6g,J6h,J6d,Int.toNat_natCast]
   rw [J6d (by rw [List.length_cons]; omega),List.cons_append,e]
   rfl
  ·unfold Jy_1_step
   rw [J6e (by omega),List.take_of_length_le (Nat.le_refl _)]
 rw [this,J6c]
 simp only []
 rw [sum_eq _ (by rw [List.length_cons]; omega),J6c]
set_option maxRecDepth 100000
theorem J8j (x:UInt32) (n:Nat):UInt32.ofNat (x.toNat >>> n) ||| UInt32.ofNat (x.toNat <<< (32 - n))=rotr x n:=UInt32.or_comm _ _
theorem turn7 (x:UInt32):Ju x 7=some (rotr x 7):=congrArg some (J8j x 7)
theorem turn18 (x:UInt32):Ju x 18=some (rotr x 18):=congrArg some (J8j x 18)
theorem turn17 (x:UInt32):Ju x 17=some (rotr x 17):=congrArg some (J8j x 17)
theorem turn19 (x:UInt32):Ju x 19=some (rotr x 19):=congrArg some (J8j x 19)
theorem turn6 (x:UInt32):Ju x 6=some (rotr x 6):=congrArg some (J8j x 6)
theorem turn11 (x:UInt32):Ju x 11=some (rotr x 11):=congrArg some (J8j x 11)
theorem turn25 (x:UInt32):Ju x 25=some (rotr x 25):=congrArg some (J8j x 25)
theorem turn2 (x:UInt32):Ju x 2=some (rotr x 2):=congrArg some (J8j x 2)
theorem turn13 (x:UInt32):Ju x 13=some (rotr x 13):=congrArg some (J8j x 13)
theorem turn22 (x:UInt32):Ju x 22=some (rotr x 22):=congrArg some (J8j x 22)
theorem Kv (b:List UInt8) (hb:b.length=64) (k h v z:List UInt32):J5_1 b k 0 h v z=some (k,h,v,J77 (Jr0 b) 0 16 z):=by
 unfold J5_1
 refine J6o (fun i w=>((i:Int),w)) (Jr0 b) (fun w=>(k,h,v,w)) 16 (fun _ _=>True) (fun i w hi _=>⟨?_,trivial⟩) (fun w _=>?_) 16 0 z rfl trivial
 ·unfold J5_1_step
  have e0:Int.toNat (4 * (i:Int))=4 * i:=by omega
  have e1:Int.toNat (4 * (i:Int)+1)=4 * i+1:=by omega
  have e2:Int.toNat (4 * (i:Int)+2)=4 * i+2:=by omega
  have e3:Int.toNat (4 * (i:Int)+3)=4 * i+3:=by omega
  simp (disch:=omega) only [J6g,J6h,J6d,hb,e0,e1,e2,e3,Int.toNat_natCast]
  rfl
 ·unfold J5_1_step
  rfl
theorem Kw (k h v z:List UInt32):J5_2 k 16 h v z=some (k,h,v,J77 Jr1 16 48 z):=by
 unfold J5_2
 refine J6o (fun i w=>((i:Int),w)) Jr1 (fun w=>(k,h,v,w)) 64 (fun i _=>16≤i) (fun i w hi hh=>⟨?_,by omega⟩) (fun w _=>?_) 48 16 z rfl (Nat.le_refl _)
 ·unfold J5_2_step
  have e0:Int.toNat ((i:Int) - 15)=i - 15:=by omega
  have e1:Int.toNat ((i:Int) - 2)=i - 2:=by omega
  have e2:Int.toNat ((i:Int) - 16)=i - 16:=by omega
  have e3:Int.toNat ((i:Int) - 7)=i - 7:=by omega
  simp (disch:=omega) only [J6g,J6h,J6d,e0,e1,e2,e3,Int.toNat_natCast,turn7,turn18,turn17,turn19,J6c]
  rfl
 ·unfold J5_2_step
  rfl
theorem Ky (k h v w:List UInt32) (hk:k.length=64) (s:W8):J5_3 k 0 h v w (Ju0 s)=some (h,v,Ju0 (J77 (J8a k w) 0 64 s)):=by
 unfold J5_3
 refine J6o (fun i (s:W8)=>((i:Int),Ju0 s)) (J8a k w) (fun s=>(h,v,Ju0 s)) 64 (fun _ _=>True) (fun i s hi _=>⟨?_,trivial⟩) (fun s _=>?_) 64 0 s rfl trivial
 ·obtain ⟨a,b,c,d,e,f,g,x⟩:=s
  unfold J5_3_step
  simp (disch:=omega) only [J6g,J6h,J6d,hk,Int.toNat_natCast,turn6,turn11,turn25,turn2,turn13,turn22,J6c]
  rw [show J8a k w i (a,b,c,d,e,f,g,x)=((((((x+((rotr e 6 ^^^ rotr e 11) ^^^ rotr e 25))+((e &&& f) ^^^ ((~~~e) &&& g)))+k.getD i 0)+w.getD i 0)+((rotr a 2 ^^^ rotr a 13) ^^^ rotr a 22))+(((a &&& b) ^^^ (a &&& c)) ^^^ (b &&& c)),a,b,c,
   d+((((x+((rotr e 6 ^^^ rotr e 11) ^^^ rotr e 25))+((e &&& f) ^^^ ((~~~e) &&& g)))+k.getD i 0)+w.getD i 0),e,f,g) from by simp only [J8a,UInt32.add_assoc]]
  rfl
 ·unfold J5_3_step
  rfl
theorem Kz (h z v:List UInt32):J5_4 0 h z v=some (J77 (addS v) 0 8 h,z):=by
 unfold J5_4
 refine J6o (fun i w=>((i:Int),w)) (addS v) (fun w=>(w,z)) 8 (fun _ _=>True) (fun i w hi _=>⟨?_,trivial⟩) (fun w _=>?_) 8 0 h rfl trivial
 ·unfold J5_4_step
  simp (disch:=omega) only [J6g,J6h,J6d,Int.toNat_natCast]
  rfl
 ·unfold J5_4_step
  rfl
theorem Ju1 (h:List UInt32) (hh:h.length=8):Ju0 (tup8 h)=h:=by
 match h,hh with
 | [a,b,c,d,e,f,g,i],_=>rfl
theorem Jxq (h:List UInt32) (hh:h.length=8) (b:List UInt8) (hb:b.length=64) (k:List UInt32) (hk:k.length=64):J5 h b k=some (mixS k b h):=by
 unfold J5
 simp only [Kv b hb,Kw,J6c]
 have h3:=Ky k h (List.replicate 8 0) (Jej b) hk (tup8 h)
 rw [Ju1 h hh] at h3
 rw [show J77 Jr1 16 48 (J77 (Jr0 b) 0 16 (List.replicate 64 0))=Jej b from by rw [Jej],h3,J6c]
 simp only [Kz,J6c]
 rw [mixS]
theorem K1p (n:Nat):Int.tmod (n:Int) 64=((n % 64:Nat):Int):=by
 rw [Int.tmod_eq_emod_of_nonneg (by omega)]; omega
theorem rsum_1 (b:List UInt8) (hb:b.length≤1073741824) (out:List UInt8) (k h:List UInt32) :
  J8_1 b out k h (b++[128])=some (b,out,k,h,(b++[128])++List.replicate ((b.length+8) / 64 * 64+55 - b.length) 0):=by
 unfold J8_1
 generalize hz:(b.length+8) / 64 * 64+55 - b.length=z
 have:=J6o (step:=fun s=>J8_1_step b out k h s) (fun i (_:Unit)=>(b++[128])++List.replicate i (0:UInt8)) (fun _ _=>()) (fun _=>(b,out,k,h,(b++[128])++List.replicate z 0)) z (fun _ _=>True) (fun i w hi _=>⟨?_,trivial⟩) (fun w _=>?_) z 0 () (by omega) trivial
 ·simpa using this
 ·unfold J8_1_step
  rw [K1p,Jaz (by simp; omega),J6d (by simp; omega),List.append_assoc,List.append_assoc,List.append_assoc,← List.replicate_succ']
 ·unfold J8_1_step
  rw [K1p,J90 (by simp; omega)]
theorem Juq {j:Nat} (h:j < 8):(UInt64.ofNat (Int.toNat ((8 * ((7:Int) - (j:Int))) % 18446744073709551616))).toNat=8 * (7 - j):=by
 have:Int.toNat ((8 * ((7:Int) - (j:Int))) % 18446744073709551616)=8 * (7 - j):=by omega
 rw [this,UInt64.toNat_ofNat']; omega
theorem rsum_2 (b:List UInt8) (hb:b.length≤1073741824) (out m:List UInt8) (hm:m.length≤1073741924) (k h:List UInt32) :
  J8_2 b 7 out k h m=some (out,k,h,J77 (fun j (l:List UInt8)=>l++[Jb3 (bitsOf b) (7 - j)]) 0 8 m):=by
 unfold J8_2
 refine J6o (step:=fun (s:Int×List UInt8)=>J8_2_step b s.1 out k h s.2) (fun j l=>((7:Int) - (j:Int),l)) (fun j (l:List UInt8)=>l++[Jb3 (bitsOf b) (7 - j)]) (fun l=>(out,k,h,l)) 8 (fun j l=>l.length=m.length+j) (fun j l hj hl=>⟨?_,by simp [hl]; omega⟩) (fun l _=>?_) 8 0 m rfl rfl
 ·unfold J8_2_step
  have hbits:UInt64.ofNat (Int.toNat ((8 * (b.length:Int)) % 18446744073709551616))=bitsOf b:=by
   rw [show Int.toNat ((8 * (b.length:Int)) % 18446744073709551616)=b.length * 8 from by omega,UInt64.ofNat_mul]; rfl
  simp (disch:=omega) only [J6g,J6h,hbits]
  rw [J6d (by omega),J6d (by simp; omega),Juq hj,Int.toNat_natCast]
  rw [show (7:Int) - (j:Int) - 1=7 - ((j+1:Nat):Int) from by omega]
  rfl
 ·unfold J8_2_step
  rfl
theorem K3s (l out:List UInt8) (n:Nat) (hl:l.length=64 * n) (hn:64 * n≤2147483648) (h:List UInt32) (hh:h.length=8) :
  J8_3 l 0 out kS h=some (out,J77 (fun j h=>mixS kS ((l.drop (64 * j)).take 64) h) 0 n h):=by
 unfold J8_3
 refine J6o (step:=fun (s:Int×List UInt32)=>J8_3_step l s.1 out kS s.2) (fun j h=>(((64 * j:Nat):Int),h)) (fun j h=>mixS kS ((l.drop (64 * j)).take 64) h) (fun h=>(out,h)) n (fun j h=>h.length=8) (fun j h hj hh=>⟨?_,by rw [Js0,hh]⟩) (fun l _=>?_) n 0 h (by omega) hh
 ·unfold J8_3_step
  have hc:cutL l ((64 * j:Nat):Int) (((64 * j:Nat):Int)+64)=(l.drop (64 * j)).take 64:=by
   unfold cutL
   rw [Int.toNat_natCast,show Int.toNat (((64 * j:Nat):Int)+64)=64 * j+64 from by omega,List.drop_take]
   congr 1; omega
  simp (disch:=omega) only [J6g,J6h,J6d,hc]
  rw [Jxq h hh _ (by rw [List.length_take,List.length_drop]; omega) _ rfl,J6c]
  rfl
 ·unfold J8_3_step
  rw [J6e (by omega)]
theorem Jht (l:List UInt8):∀ (n j:Nat) (h:List UInt32),J77 (fun j h=>mixS kS ((l.drop (64 * j)).take 64) h) j n h=Jbn n (l.drop (64 * j)) h
 | 0,_,_=>rfl
 | n+1,j,h=>by
  rw [J77,Jht l n (j+1),Jbn,List.drop_drop]
  rfl
def Jj0 (x:UInt32) (i:Nat) (acc:List UInt8):List UInt8:=(((acc.set (4 * i) (outB x 0)).set (4 * i+1) (outB x 1)).set (4 * i+2) (outB x 2)).set (4 * i+3) (outB x 3)
theorem rsum_4 (h:List UInt32) (z acc:List UInt8):J8_4 h 0 z acc=some (z,J77 (fun i acc=>Jj0 (h.getD i 0) i acc) 0 8 acc):=by
 unfold J8_4
 refine J6o (step:=fun (s:Int×List UInt8)=>J8_4_step h s.1 z s.2) (fun i acc=>((i:Int),acc)) (fun i acc=>Jj0 (h.getD i 0) i acc) (fun acc=>(z,acc)) 8 (fun _ _=>True) (fun i acc hi _=>⟨?_,trivial⟩) (fun acc _=>?_) 8 0 acc rfl trivial
 ·unfold J8_4_step
  have e0:Int.toNat (4 * (i:Int))=4 * i:=by omega
  have e1:Int.toNat (4 * (i:Int)+1)=4 * i+1:=by omega
  have e2:Int.toNat (4 * (i:Int)+2)=4 * i+2:=by omega
  have e3:Int.toNat (4 * (i:Int)+3)=4 * i+3:=by omega
  have hx:∀ x:UInt32,outB x 3=UInt8.ofNat x.toNat:=by intro x; simp [outB]
  simp (disch:=omega) only [J6g,J6h,J6d,e0,e1,e2,e3,Int.toNat_natCast]
  rw [Jj0,hx]
  rfl
 ·unfold J8_4_step
  rfl
theorem K05 (a b c d e f g i:UInt32):J77 (fun j acc=>Jj0 (List.getD [a,b,c,d,e,f,g,i] j 0) j acc) 0 8 (List.replicate 32 (0:UInt8))=outS [a,b,c,d,e,f,g,i]:=by kernel_rfl
theorem K3m (h:List UInt32) (hh:h.length=8):J77 (fun i acc=>Jj0 (h.getD i 0) i acc) 0 8 (List.replicate 32 (0:UInt8))=outS h:=by
 match h,hh with
 | [a,b,c,d,e,f,g,i],_=>exact K05 a b c d e f g i
theorem Jzc:J3v=some kS:=by kernel_rfl
theorem K3r (b:List UInt8):J77 (fun j (l:List UInt8)=>l++[Jb3 (bitsOf b) (7 - j)]) 0 8 ((b++[128])++List.replicate ((b.length+8) / 64 * 64+55 - b.length) 0)=padS b:=by
 unfold padS
 simp only [J77,List.append_assoc]
 rfl
theorem K3t (b:List UInt8) (hb:b.length≤1073741824):J8 b=some (sha b):=by
 unfold J8
 have h0:(List.set (List.set (List.set (List.set (List.set (List.set (List.set (List.set (List.replicate 8 (0:UInt32)) 0 (1779033703:UInt32)) 1 (3144134277:UInt32)) 2 (1013904242:UInt32)) 3 (2773480762:UInt32)) 4 (1359893119:UInt32)) 5 (2600822924:UInt32)) 6 (528734635:UInt32)) 7 (1541459225:UInt32))=h0S:=by kernel_rfl
 rw [Jzc,J6c,J6d (by simp; omega),J6d (by simp; omega),h0,List.nil_append,rsum_1 b hb,J6c]
 simp only [rsum_2 b hb _ _ (show ((b++[128])++List.replicate ((b.length+8) / 64 * 64+55 - b.length) (0:UInt8)).length≤1073741924 by simp; omega),J6c,K3r]
 rw [K3s _ _ ((b.length+8) / 64+1) (Jqm b) (by omega) _ rfl,J6c,Jht]
 simp only [rsum_4,J6c]
 rw [K3m _ (by rw [Jbo]; rfl)]
 rfl
theorem J7s (t:UInt8) (l:List (List UInt8)) (h:l.flatten.length≤1073741823) (hl:l.length≤1073741823):Je t l=some (sha (t::l.flatten)):=by
 unfold Je
 have:∀ z,Je_1 l (l.length:Int) 0 z [t]=some (z,t::l.flatten):=by
  intro z
  unfold Je_1
  have:=J6o (step:=fun (s:Int×List UInt8)=>Je_1_step l (l.length:Int) s.1 z s.2) (fun i (_:Unit)=>((i:Int),t::(l.take i).flatten)) (fun _ _=>()) (fun _=>(z,t::l.flatten)) l.length (fun _ _=>True) (fun i w hi _=>⟨?_,trivial⟩) (fun w _=>?_) l.length 0 () (by omega) trivial
  ·exact this
  ·unfold Je_1_step
   have e:=getD_take l hi
   have le:=Jav l (i+1)
   rw [← e,List.length_append] at le
   simp (disch:=omega) only [J6g,J6h,J6d,Int.toNat_natCast]
   rw [J6d (by rw [List.length_cons]; omega),List.cons_append,e]
   rfl
  ·unfold Je_1_step
   rw [J6e (by omega),List.take_of_length_le (Nat.le_refl _)]
 rw [this,J6c]
 simp only []
 rw [K3t _ (by rw [List.length_cons]; omega),J6c]
theorem Jp1:∀ (f k n:Nat),n < 128 ^ (f+1)→f < k→f≤100→n≤1099511627775→J02_f k (n:Int)=some (putF f n)
 | f,0,n,h,hk,hf,hn=>by omega
 | f,k+1,n,h,hk,hf,hn=>by
  rw [J02_f,J6e (by omega),J6e (by omega)]
  by_cases h1:n < 128
  ·rw [J6g (by omega),Jkq h1 f,J97]
  ·rw [J6e (by omega)]
   cases f with
   | zero=>simp at h; omega
   | succ f=>
    have hd:n / 128 < 128 ^ (f+1):=by
     rw [Nat.div_lt_iff_lt_mul (by omega)]
     have:128 ^ (f+1+1)=128 ^ (f+1) * 128:=Nat.pow_succ ..
     omega
    rw [show Int.toNat 7=7 from rfl,Jrs n 7 (by omega),show n / 2 ^ 7=n / 128 from rfl,Jp1 f k (n / 128) hd (by omega) (by omega) (by omega),J6c,Jv1 n (by omega),K0v _ (by omega),J97]
    have:=Jmk f (n / 128)
    rw [J6d (by simp; omega),putF,if_neg h1]; rfl
theorem Jgd (n:Int):J02 n=some (oneS n):=by
 unfold J02 oneS
 by_cases h0:n < 0
 ·rw [J02_f,J6g h0,if_neg (by omega)]
 ·by_cases h1:1099511627775 < n
  ·rw [J02_f,J6e h0,J6g h1,if_neg (by omega)]
  ·rw [if_pos (by omega)]
   obtain ⟨k,rfl⟩:=Int.eq_ofNat_of_zero_le (show 0≤n by omega)
   exact Jp1 6 64 k (by omega) (by omega) (by omega) (by omega)
theorem Jqp (l:List (List UInt8)) (hl:l.length≤1000) (hh:∀ x ∈ l,x.length=32) (acc:List UInt8) (ha:acc.length≤1000):Jp_1 (l.length:Int) 0 acc l=some (acc++l.flatten):=by
 have hlen:∀ i,((l.take i).flatten).length≤32 * l.length:=by
  intro i
  have:∀ (m:List (List UInt8)),(∀ x ∈ m,x.length=32)→m.flatten.length=32 * m.length:=by
   intro m
   induction m with
   | nil=>intro _; rfl
   | cons a m ih=>intro hm; rw [List.flatten_cons,List.length_append,ih (fun x hx=>hm x (List.mem_cons_of_mem _ hx)),hm a List.mem_cons_self,List.length_cons]; omega
  rw [this _ fun x hx=>hh x (List.mem_of_mem_take hx),List.length_take]; omega
 unfold Jp_1
 have:=J6o (step:=fun (s:Int×List UInt8)=>Jp_1_step (l.length:Int) s.1 s.2 l) (fun i (_:Unit)=>((i:Int),acc++(l.take i).flatten)) (fun _ _=>()) (fun _=>acc++l.flatten) l.length (fun _ _=>True) (fun i w hi _=>⟨?_,trivial⟩) (fun w _=>?_) l.length 0 () (by omega) trivial
 ·simpa using this
 ·show Jp_1_step (l.length:Int) (i:Int) (acc++(l.take i).flatten) l=_
  unfold Jp_1_step
  have b:=hlen i
  have hm:(l.getD i (List.replicate 32 0)).length=32:=hh _ (by rw [List.getD_eq_getElem?_getD,List.getElem?_eq_getElem hi]; exact List.getElem_mem _)
  have e:=Jb6 (fun x:List UInt8=>x) l (List.replicate 32 0) hi
  simp only [List.flatMap_id'] at e
  rw [J6g (by omega),J6d (by omega),Int.toNat_natCast,J6d (by rw [List.length_append]; omega),J6h (by omega) (by omega),List.append_assoc,e]
  rfl
 ·show Jp_1_step (l.length:Int) (l.length:Int) (acc++(l.take l.length).flatten) l=_
  unfold Jp_1_step
  rw [J6e (by omega),List.take_of_length_le (Nat.le_refl _)]
theorem Jxr (h:Hdr) (hh:J8q h):Jp h=some (Jfw h):=by
 obtain ⟨a,b,c,d⟩:=hh
 have l1:=J7t h.1
 have l2:=J7t h.2.1
 unfold Jp
 rw [Jgd,J6c,Jgd,J6c,J6d (by omega),Jqp _ (by simp) (by
   intro x hx
   simp only [List.mem_cons,List.not_mem_nil,or_false] at hx
   rcases hx with rfl | rfl | rfl | rfl <;> assumption) _ (by rw [List.length_append]; omega),J6c]
 congr 1
 simp [Jfw]
theorem Jid (h:Hdr) (hh:J8q h):J5b h=some (sha (72::Jc8 h)):=by
 have hl:(Jc8 h).length≤142:=by
  unfold Jc8; split
  ·exact Jrb h hh
  ·simp
 unfold J5b
 have hf:[Jc8 h].flatten=Jc8 h:=by simp
 rw [Jz9 h hh,J6c,J7w _ _ (by rw [hf]; omega) (by simp),hf]
 rfl
theorem Jox (h:Hdr) (hh:J8q h):J14 h=some (sha (72::Jfw h)):=by
 have hl:=Jrb h hh
 unfold J14
 have hf:[Jfw h].flatten=Jfw h:=by simp
 rw [Jxr h hh,J6c,J7s _ _ (by rw [hf]; omega) (by simp),hf]
 rfl
def txtS (x:List UInt8):List UInt8:=oneS x.length++x
theorem Jjn (x:List UInt8):(txtS x).length≤x.length+7:=by
 have:=J7t (x.length:Int)
 unfold txtS; rw [List.length_append]; omega
theorem Jt4 (l:List (List UInt8)) (hl:l.length≤1000) (h:∀ x ∈ l,x.length≤100000):J1c l=some (l.flatMap txtS):=by
 have hlen:∀ i,((l.take i).flatMap txtS).length≤100007 * i:=by
  intro i
  have:∀ (m:List (List UInt8)),(∀ x ∈ m,x.length≤100000)→(m.flatMap txtS).length≤100007 * m.length:=by
   intro m
   induction m with
   | nil=>intro _; simp
   | cons a m ih=>intro hm; have h1:=ih (fun x hx=>hm x (List.mem_cons_of_mem _ hx)); have h2:=hm a List.mem_cons_self; have h3:=Jjn a; rw [List.flatMap_cons,List.length_append,List.length_cons]; omega
  have:=this (l.take i) fun x hx=>h x (List.mem_of_mem_take hx)
  rw [List.length_take] at this; omega
 have main:J1c_1 l (l.length:Int) 0 []=some (l.flatMap txtS):=by
  unfold J1c_1
  have:=J6o (step:=fun (s:Int×List UInt8)=>J1c_1_step l (l.length:Int) s.1 s.2) (fun i (_:Unit)=>((i:Int),(l.take i).flatMap txtS)) (fun _ _=>()) (fun _=>l.flatMap txtS) l.length (fun _ _=>True) (fun i w hi _=>⟨?_,trivial⟩) (fun w _=>?_) l.length 0 () (by omega) trivial
  ·exact this
  ·show J1c_1_step l (l.length:Int) (i:Int) ((l.take i).flatMap txtS)=_
   unfold J1c_1_step
   have b:=hlen i
   have hm:(l.getD i []).length≤100000:=h _ (J7e hi)
   have b2:=J7t ((l.getD i []).length:Int)
   rw [J6g (by omega),J6d (by omega),Int.toNat_natCast,Jxa,J6c,J6d (by omega),J6d (by rw [List.length_append]; omega),J6h (by omega) (by omega),List.append_assoc,Jb6 txtS l [] hi]
   rfl
  ·show J1c_1_step l (l.length:Int) (l.length:Int) ((l.take l.length).flatMap txtS)=_
   unfold J1c_1_step
   rw [J6e (by omega),List.take_of_length_le (Nat.le_refl _)]
 unfold J1c
 rw [main,J6c]
theorem K2o (n:Nat) (h:n≤1000000000):J2h (n:Int)=some []:=by
 unfold J2h
 rw [J6e (by omega),Int.sub_zero,J6h (by omega) (by omega)]
 by_cases c:(0:Int) < (n:Int)
 ·rw [J6g c,J6d ⟨rfl,rfl⟩,J6d (by rw [List.length_replicate]; omega),J6d (by omega),J6d (by rw [List.length_replicate]; omega)]
  rfl
 ·rw [J6e c]
theorem Jvl (l:List (List UInt8)) (h:l.flatten.length≤1000000000) (hl:l.length≤1000000):J7 l=some l.flatten:=by
 have ht:∀ i,((l.take i).flatten).length≤1000000000:=fun i=>Nat.le_trans (Jav l i) h
 have m1:J7_1 l 0 l (l.length:Int) 0=some (l,(l.flatten.length:Int)):=by
  unfold J7_1
  have:=J6o (step:=fun (s:Int×Int)=>J7_1_step l s.1 l (l.length:Int) s.2) (fun i (_:Unit)=>((((l.take i).flatten).length:Int),(i:Int))) (fun _ _=>()) (fun _=>(l,(l.flatten.length:Int))) l.length (fun _ _=>True) (fun i w hi _=>⟨?_,trivial⟩) (fun w _=>?_) l.length 0 () (by omega) trivial
  ·exact this
  ·show J7_1_step l (((l.take i).flatten).length:Int) l (l.length:Int) (i:Int)=_
   unfold J7_1_step
   have e:=congrArg List.length (getD_take l hi)
   rw [List.length_append] at e
   have b:=ht (i+1)
   rw [J6g (by omega),J6d (by omega),Int.toNat_natCast,J6h (n:=(((l.take i).flatten).length:Int)+((l.getD i []).length:Int)) (by omega) (by omega),J6e (by omega),J6h (by omega) (by omega)]
   congr 3
   omega
  ·show J7_1_step l (((l.take l.length).flatten).length:Int) l (l.length:Int) (l.length:Int)=_
   unfold J7_1_step
   rw [J6e (by omega),List.take_of_length_le (Nat.le_refl _)]
 have m2:J7_2 l (l.length:Int) 0 []=some l.flatten:=by
  unfold J7_2
  have:=J6o (step:=fun (s:Int×List UInt8)=>J7_2_step l (l.length:Int) s.1 s.2) (fun i (_:Unit)=>((i:Int),(l.take i).flatten)) (fun _ _=>()) (fun _=>l.flatten) l.length (fun _ _=>True) (fun i w hi _=>⟨?_,trivial⟩) (fun w _=>?_) l.length 0 () (by omega) trivial
  ·exact this
  ·show J7_2_step l (l.length:Int) (i:Int) ((l.take i).flatten)=_
   unfold J7_2_step
   have e:=congrArg List.length (getD_take l hi)
   rw [List.length_append] at e
   have b:=ht (i+1)
   rw [J6g (by omega),J6d (by omega),Int.toNat_natCast,J6d (by omega),J6h (by omega) (by omega),getD_take l hi]
   rfl
  ·show J7_2_step l (l.length:Int) (l.length:Int) ((l.take l.length).flatten)=_
   unfold J7_2_step
   rw [J6e (by omega),List.take_of_length_le (Nat.le_refl _)]
 unfold J7
 rw [m1,J6c]
 simp only
 rw [K2o _ h,J6c,m2,J6c]
def valB (v:Val):List UInt8:=txtS v.1++oneS v.2.1++v.2.2.1
def setB (l:List Val):List UInt8:=oneS l.length++l.flatMap valB
def setH (l:List Val):List UInt8:=sha (86::setB l)
def Jpi (l:List Val):Prop:=l.length≤1000∧∀ v ∈ l,v.1.length≤100000∧v.2.2.1.length=32
theorem J8m (l:List Val):(setH l).length=32:=J81 _
theorem Jt1 {v:Val} (h:v.1.length≤100000∧v.2.2.1.length=32):(valB v).length≤100100:=by
 have h1:=Jjn v.1
 have h2:=J7t v.2.1
 unfold valB
 rw [List.length_append,List.length_append]; omega
theorem Jt2:∀ (m:List Val),(∀ v ∈ m,v.1.length≤100000∧v.2.2.1.length=32)→(m.flatMap valB).length≤100100 * m.length
 | [],_=>by simp
 | a::m,hm=>by
  have h1:=Jt2 m fun x hx=>hm x (List.mem_cons_of_mem _ hx)
  have h2:=Jt1 (hm a List.mem_cons_self)
  rw [List.flatMap_cons,List.length_append,List.length_cons]; omega
theorem Jd2 {l:List Val} (h:Jpi l) (i:Nat):(oneS l.length++(l.take i).flatMap valB).length≤100100 * 1000+7:=by
 have h1:=J7t (l.length:Int)
 have h2:=Jt2 (l.take i) fun v hv=>h.2 v (List.mem_of_mem_take hv)
 have h3:=h.1
 rw [List.length_take] at h2
 rw [List.length_append]
 have:min i l.length≤1000:=by omega
 have:100100 * min i l.length≤100100 * 1000:=Nat.mul_le_mul_left _ this
 omega
theorem Jfr (x0:List Val) (x1:Int) (x2:Int) (x3:List UInt8) (x4:List UInt8):J0j_1_step x0 x1 x2 x3 x4=(fork (decide (x2 < x1)) (need (0≤x2∧x2 < (List.length x0:Int)) (andThen (J1c ([(List.getD x0 (Int.toNat x2) zVal).1]:List (List UInt8))) (fun u6=>andThen (J0u ([(List.getD x0 (Int.toNat x2) zVal).2.1]:List (Int))) (fun u8=>andThen (J1b ([(List.getD x0 (Int.toNat x2) zVal).2.2.1]:List (List UInt8))) (fun u10=>andThen (J7 ([x4,u6,u8,u10]:List (List UInt8))) (fun u12=>some (.inl ((w64 (x2+(1:Int))),u12)))))))) (some (.inr (x3,x4))):Option ((Int×List UInt8)⊕(List UInt8×List UInt8))):=rfl
theorem J9f (l:List Val) (h:Jpi l):J0j l=some (setH l):=by
 have hl:=h.1
 have main:J0j_1 l (l.length:Int) 0 (List.replicate 32 0) (oneS l.length)=some (List.replicate 32 0,setB l):=by
  unfold J0j_1
  have:=J6o (step:=fun (s:Int×List UInt8)=>J0j_1_step l (l.length:Int) s.1 (List.replicate 32 0) s.2) (fun i (_:Unit)=>((i:Int),oneS l.length++(l.take i).flatMap valB)) (fun _ _=>()) (fun _=>(List.replicate 32 0,setB l)) l.length (fun _ _=>True) (fun i w hi _=>⟨?_,trivial⟩) (fun w _=>?_) l.length 0 () (by omega) trivial
  ·rw [show ((0:Int),oneS (l.length:Int))=(((0:Nat):Int),oneS (l.length:Int)++(l.take 0).flatMap valB) from by simp]
   exact this
  ·show J0j_1_step l (l.length:Int) (i:Int) (List.replicate 32 0) (oneS l.length++(l.take i).flatMap valB)=_
   have hv:=h.2 _ (J7e (z:=zVal) hi)
   have b:=Jd2 h i
   have b2:=Jt1 hv
   rw [Jfr,J6g (by omega),J6d (by omega),Int.toNat_natCast,Jt4 _ (by simp) (by simp; exact hv.1),J6c,put_eq _ (by simp),J6c,Jwk _ (by simp) (by simp; exact hv.2),J6c]
   have e:[oneS (l.length:Int)++(l.take i).flatMap valB,[(l.getD i zVal).1].flatMap txtS,putS [(l.getD i zVal).2.1],[(l.getD i zVal).2.2.1].flatten].flatten=oneS (l.length:Int)++(l.take (i+1)).flatMap valB:=by
    rw [Jb6 valB l zVal hi]
    simp [valB,putS,List.append_assoc]
   have b3:=Jd2 h (i+1)
   rw [Jvl _ (by rw [e]; omega) (by simp),J6c,e,J6h (by omega) (by omega)]
   rfl
  ·show J0j_1_step l (l.length:Int) (l.length:Int) (List.replicate 32 0) (oneS l.length++(l.take l.length).flatMap valB)=_
   unfold J0j_1_step
   rw [J6e (by omega),List.take_of_length_le (Nat.le_refl _)]
   rfl
 have b:=Jd2 h l.length
 rw [List.take_of_length_le (Nat.le_refl _)] at b
 have b:(setB l).length≤100100 * 1000+7:=b
 have hp:putS [(l.length:Int)]=oneS l.length:=by simp [putS]
 have hf:[setB l].flatten=setB l:=by simp
 unfold J0j
 rw [put_eq _ (by simp),J6c,hp,main,J6c]
 simp only
 rw [J7w _ _ (by rw [hf]; omega) (by simp),hf]
 rfl
theorem K08 (x:List UInt8) (hx:x.length≤100000):J28 x=some (txtS x):=by
 have:=J7t (x.length:Int)
 unfold J28
 rw [Jgd,J6c,J6d (by omega)]
 rfl
theorem J9n (x0:List Val) (x1:Int) (x2:Int) (x3:List UInt8) (x4:List UInt8):Jm_1_step x0 x1 x2 x3 x4=(fork (decide (x2 < x1)) (need (0≤x2∧x2 < (List.length x0:Int)) (andThen (J28 ((List.getD x0 (Int.toNat x2) zVal).1)) (fun u6=>need (List.length x4+List.length u6≤2147483648) (andThen (J02 ((List.getD x0 (Int.toNat x2) zVal).2.1)) (fun u9=>need (List.length (x4++u6)+List.length u9≤2147483648) (need (List.length ((x4++u6)++u9)+List.length (List.getD x0 (Int.toNat x2) zVal).2.2.1≤2147483648) (some (.inl ((w64 (x2+(1:Int))),(((x4++u6)++u9)++(List.getD x0 (Int.toNat x2) zVal).2.2.1)))))))))) (some (.inr (x3,x4))):Option ((Int×List UInt8)⊕(List UInt8×List UInt8))):=rfl
theorem Jqw (l:List Val) (h:Jpi l):Jm l=some (setH l):=by
 have hl:=h.1
 have main:Jm_1 l (l.length:Int) 0 (List.replicate 32 0) (oneS l.length)=some (List.replicate 32 0,setB l):=by
  unfold Jm_1
  have:=J6o (step:=fun (s:Int×List UInt8)=>Jm_1_step l (l.length:Int) s.1 (List.replicate 32 0) s.2) (fun i (_:Unit)=>((i:Int),oneS l.length++(l.take i).flatMap valB)) (fun _ _=>()) (fun _=>(List.replicate 32 0,setB l)) l.length (fun _ _=>True) (fun i w hi _=>⟨?_,trivial⟩) (fun w _=>?_) l.length 0 () (by omega) trivial
  ·rw [show ((0:Int),oneS (l.length:Int))=(((0:Nat):Int),oneS (l.length:Int)++(l.take 0).flatMap valB) from by simp]
   exact this
  ·show Jm_1_step l (l.length:Int) (i:Int) (List.replicate 32 0) (oneS l.length++(l.take i).flatMap valB)=_
   have hv:=h.2 _ (J7e (z:=zVal) hi)
   have b:=Jd2 h i
   have b1:=Jjn (l.getD i zVal).1
   have b2:=J7t (l.getD i zVal).2.1
   rw [J9n,J6g (by omega),J6d (by omega),Int.toNat_natCast,K08 _ hv.1,J6c,J6d (by omega),Jgd,J6c,J6d (by rw [@List.length_append _ (oneS _++_) _]; omega),J6d (by rw [@List.length_append _ ((oneS _++_)++_) _,@List.length_append _ (oneS _++_) _]; omega),J6h (by omega) (by omega),Jb6 valB l zVal hi]
   simp [valB,List.append_assoc]
  ·show Jm_1_step l (l.length:Int) (l.length:Int) (List.replicate 32 0) (oneS l.length++(l.take l.length).flatMap valB)=_
   unfold Jm_1_step
   rw [J6e (by omega),List.take_of_length_le (Nat.le_refl _)]
   rfl
 have b:=Jd2 h l.length
 rw [List.take_of_length_le (Nat.le_refl _)] at b
 have b:(setB l).length≤100100 * 1000+7:=b
 have hf:[setB l].flatten=setB l:=by simp
 unfold Jm
 rw [Jgd,J6c,main,J6c]
 simp only
 rw [J7s _ _ (by rw [hf]; omega) (by simp),hf]
 rfl
def Jjv:Nat→Nat→Nat→Nat
 | 0,k,n=>k
 | f+1,k,n=>if 2 * k < n then Jjv f (2 * k) n else k
def J6w (n:Nat):Nat:=Jjv 40 1 n
theorem Jmg (k f:Nat):2 * (2 * k) * 2 ^ f=2 * k * (2 ^ f * 2):=by
 rw [Nat.mul_comm (2 ^ f) 2,← Nat.mul_assoc (2 * k) 2 (2 ^ f)]; congr 1; omega
theorem Jww:∀ (f k n:Nat),1≤k→k < n→n≤2 * k * 2 ^ f→k≤Jjv f k n∧Jjv f k n < n∧n≤2 * Jjv f k n
 | 0,k,n,h1,h2,h3=>by
  simp only [Nat.pow_zero,Nat.mul_one] at h3
  exact ⟨Nat.le_refl _,h2,h3⟩
 | f+1,k,n,h1,h2,h3=>by
  rw [Jjv]
  split
  ·rename_i h
   have:=Jww f (2 * k) n (by omega) h (by rw [Nat.pow_succ] at h3; rw [Jmg]; exact h3)
   exact ⟨by omega,this.2⟩
  ·exact ⟨Nat.le_refl _,h2,by omega⟩
theorem Jb1 (n:Nat) (h:2≤n) (h2:n≤1099511627776):1≤J6w n∧J6w n < n∧n≤2 * J6w n:=Jww 40 1 n (by omega) (by omega) (by omega)
theorem Joa:∀ (f k n:Nat),n≤2 * k * 2 ^ f→1≤k→n≤1073741824→k≤1073741824→J12_1 (n:Int) (k:Int)=some ((Jjv f k n:Nat):Int)
 | 0,k,n,h,h1,h2,hk=>by
  unfold J12_1
  refine J70 ?_
  unfold J12_1_step
  simp only [Nat.pow_zero,Nat.mul_one] at h
  rw [J6h (by omega) (by omega),J6e (by omega)]
  rfl
 | f+1,k,n,h,h1,h2,hk=>by
  rw [Jjv]
  split
  ·rename_i hlt
   rw [← Joa f (2 * k) n (by rw [Nat.pow_succ] at h; rw [Jmg]; exact h) (by omega) h2 (by omega)]
   have hs:J12_1_step (n:Int) (k:Int)=some (.inl ((2 * k:Nat):Int)):=by
    unfold J12_1_step
    rw [J6h (by omega) (by omega),J6h (by omega) (by omega),J6g (by omega),show (k:Int) * 2=((2 * k:Nat):Int) from by omega]
   unfold J12_1
   rw [J76 hs]
  ·rename_i hlt
   unfold J12_1
   refine J70 ?_
   unfold J12_1_step
   rw [J6h (by omega) (by omega),J6e (by omega)]
theorem left_eq (n:Nat) (h:n≤1073741824):J12 (n:Int)=some ((J6w n:Nat):Int):=by
 unfold J12
 rw [show (1:Int)=((1:Nat):Int) from rfl,Joa 40 1 n (by omega) (by omega) h (by omega),J6c]
 rfl
def K04 (l:List (List UInt8)):List UInt8:=
 if h:2≤l.length∧l.length≤1099511627776 then sha (1::(K04 (l.take (J6w l.length))++K04 (l.drop (J6w l.length))))
 else if l.length=0 then sha [2] else sha (0::l.getD 0 [])
termination_by l.length
decreasing_by
 ·have:=Jb1 l.length h.1 h.2; simp; omega
 ·have:=Jb1 l.length h.1 h.2; simp; omega
theorem Jsj:∃ f:List (List UInt8)→List UInt8,∀ l,f l=if h:2≤l.length∧l.length≤1099511627776 then sha (1::(f (l.take (J6w l.length))++f (l.drop (J6w l.length)))) else if l.length=0 then sha [2] else sha (0::l.getD 0 []):=
 ⟨K04,fun l=>by rw [K04]⟩
noncomputable def J8p:List (List UInt8)→List UInt8:=Classical.choose Jsj
theorem Jhh (l:List (List UInt8)):J8p l=if h:2≤l.length∧l.length≤1099511627776 then sha (1::(J8p (l.take (J6w l.length))++J8p (l.drop (J6w l.length)))) else if l.length=0 then sha [2] else sha (0::l.getD 0 []):=Classical.choose_spec Jsj l
theorem J80 (l:List (List UInt8)):(J8p l).length=32:=by
 rw [Jhh]; split
 ·exact J81 _
 ·split <;> exact J81 _
def Jf0 (a b:List UInt8):List UInt8:=sha (1::(a++b))
def K2u (x:List UInt8):List UInt8:=sha (0::x)
theorem Jje (l:List (List UInt8)) (h:2≤l.length) (h2:l.length≤1099511627776):J8p l=Jf0 (J8p (l.take (J6w l.length))) (J8p (l.drop (J6w l.length))):=by
 rw [Jhh,dif_pos ⟨h,h2⟩]; rfl
theorem Jd0 (x:List UInt8):J8p [x]=K2u x:=by
 rw [Jhh,dif_neg (by simp),if_neg (by simp)]; rfl
theorem Jks:J8p []=sha [2]:=by
 rw [Jhh,dif_neg (by simp),if_pos (by simp)]
theorem Jm4 (a b:List UInt8) (ha:a.length=32) (hb:b.length=32):J4c a b=some (Jf0 a b):=by
 unfold J4c
 have hf:[a,b].flatten=a++b:=by simp
 rw [J7w _ _ (by rw [hf,List.length_append]; omega) (by simp),hf]
 rfl
def Small (l:List (List UInt8)):Prop:=∀ x ∈ l,x.length≤1000000
theorem Ja3 {l:List (List UInt8)} (h:Small l) (n:Nat):Small (l.take n):=fun x hx=>h x (List.mem_of_mem_take hx)
theorem Ja2 {l:List (List UInt8)} (h:Small l) (n:Nat):Small (l.drop n):=fun x hx=>h x (List.mem_of_mem_drop hx)
theorem Jjf:∀ (k:Nat) (l:List (List UInt8)),l.length < k→l.length≤1000→Small l→J1v_f k l=some (J8p l)
 | 0,l,h,_,_=>by omega
 | k+1,l,h,h2,hl=>by
  rw [J1v_f]
  match l,h,h2,hl with
  | [],h,h2,hl=>
   rw [J6g (by simp),J7w _ _ (by simp) (by simp),Jks]; rfl
  | [x],h,h2,hl=>
   have hx:=hl x (by simp)
   have hf:[List.getD [x] (Int.toNat (0:Int)) []].flatten=x:=by simp
   rw [J6e (by simp),J6g (by simp),J6d (by simp),J7w _ _ (by rw [hf]; omega) (by simp),hf,Jd0]; rfl
  | x::y::r,h,h2,hl=>
   have hn:2≤(x::y::r).length:=by simp
   generalize x::y::r=l at h h2 hl hn
   obtain ⟨b1,b2,b3⟩:=Jb1 l.length hn (by omega)
   rw [J6e (by omega),J6e (by omega),left_eq _ (by omega),J6c,J6d (by omega),Jet,J8z,Int.toNat_natCast,Jjf k (l.take (J6w l.length)) (by rw [List.length_take]; omega) (by rw [List.length_take]; omega) (Ja3 hl _),J6c,J6d (by omega),
    Jjf k (l.drop (J6w l.length)) (by rw [List.length_drop]; omega) (by rw [List.length_drop]; omega) (Ja2 hl _),J6c,Jm4 _ _ (J80 _) (J80 _),J6c,Jje l hn (by omega)]
theorem Jmq (l:List (List UInt8)) (h:l.length < 64) (hl:Small l):J1v l=some (J8p l):=Jjf 64 l h (by omega) hl
noncomputable def J86:Nat→List (List UInt8)→Nat→List (List UInt8)
 | 0,_,_=>[]
 | f+1,l,i=>if l.length≤1 then [] else if i < J6w l.length then J86 f (l.take (J6w l.length)) i++[J8p (l.drop (J6w l.length))]
   else J86 f (l.drop (J6w l.length)) (i - J6w l.length)++[J8p (l.take (J6w l.length))]
def J8w:Nat→Nat→Nat→List Bool
 | 0,_,_=>[]
 | f+1,i,n=>if n≤1 then [] else if i < J6w n then true::J8w f i (J6w n) else false::J8w f (i - J6w n) (n - J6w n)
theorem Jdh:∀ (f g:Nat) (l:List (List UInt8)) (i:Nat),l.length≤f+1→l.length≤g+1→l.length≤1000→J86 f l i=J86 g l i
 | 0,g,l,i,h,_,_=>by
  cases g with
  | zero=>rfl
  | succ g=>rw [J86,J86,if_pos h]
 | f+1,0,l,i,_,h,_=>by rw [J86,J86,if_pos h]
 | f+1,g+1,l,i,h,h2,h3=>by
  rw [J86,J86]
  by_cases h1:l.length≤1
  ·rw [if_pos h1,if_pos h1]
  ·obtain ⟨b1,b2,b3⟩:=Jb1 l.length (by omega) (by omega)
   rw [if_neg h1,if_neg h1,Jdh f g (l.take (J6w l.length)) i (by rw [List.length_take]; omega) (by rw [List.length_take]; omega) (by rw [List.length_take]; omega),Jdh f g (l.drop (J6w l.length)) _ (by rw [List.length_drop]; omega) (by rw [List.length_drop]; omega) (by rw [List.length_drop]; omega)]
theorem Ja0:∀ (f:Nat) (l:List (List UInt8)) (i:Nat),l.length≤1000→(J86 f l i).length=(J8w f i l.length).length
 | 0,_,_,_=>rfl
 | f+1,l,i,h=>by
  rw [J86,J8w]
  by_cases h1:l.length≤1
  ·rw [if_pos h1,if_pos h1]; rfl
  ·obtain ⟨b1,b2,b3⟩:=Jb1 l.length (by omega) (by omega)
   rw [if_neg h1,if_neg h1]
   by_cases hi:i < J6w l.length
   ·rw [if_pos hi,if_pos hi,List.length_append,Ja0 f _ _ (by rw [List.length_take]; omega),List.length_take,Nat.min_eq_left (by omega)]; simp
   ·rw [if_neg hi,if_neg hi,List.length_append,Ja0 f _ _ (by rw [List.length_drop]; omega),List.length_drop]; simp
theorem Jbd:∀ (f:Nat) (l:List (List UInt8)) (i:Nat),(J86 f l i).length≤f
 | 0,_,_=>by simp [J86]
 | f+1,l,i=>by
  rw [J86]; split
  ·simp
  ·split
   ·have:=Jbd f (l.take (J6w l.length)) i; simp; omega
   ·have:=Jbd f (l.drop (J6w l.length)) (i - J6w l.length); simp; omega
theorem Jhe:∀ (f:Nat) (l:List (List UInt8)) (i:Nat),∀ x ∈ J86 f l i,x.length=32
 | 0,_,_,x,hx=>by simp [J86] at hx
 | f+1,l,i,x,hx=>by
  rw [J86] at hx; split at hx
  ·simp at hx
  ·split at hx
   ·rcases List.mem_append.1 hx with h | h
    ·exact Jhe f _ _ x h
    ·simp at h; rw [h]; exact J80 _
   ·rcases List.mem_append.1 hx with h | h
    ·exact Jhe f _ _ x h
    ·simp at h; rw [h]; exact J80 _
abbrev zT:List UInt8:=List.replicate 32 (0:UInt8)
def Jfg (a:List (List UInt8)) (i:Nat):List (List UInt8):=(List.range a.length).map fun j=>if j < i∨a.length - 1 - i < j then a.getD (a.length - 1 - j) zT else a.getD j zT
theorem J94 (a:List (List UInt8)) (i:Nat):(Jfg a i).length=a.length:=by simp [Jfg]
theorem Jbf (a:List (List UInt8)) (i j:Nat) (h:j < a.length):(Jfg a i).getD j zT=if j < i∨a.length - 1 - i < j then a.getD (a.length - 1 - j) zT else a.getD j zT:=by
 unfold Jfg
 rw [List.getD_eq_getElem?_getD,List.getElem?_map,List.getElem?_range h]; rfl
theorem Jlr {a b:List (List UInt8)} (hl:a.length=b.length) (h:∀ j,j < a.length→a.getD j zT=b.getD j zT):a=b:=by
 apply List.ext_getElem hl
 intro j h1 h2
 have:=h j h1
 rw [List.getD_eq_getElem?_getD,List.getD_eq_getElem?_getD,List.getElem?_eq_getElem h1,List.getElem?_eq_getElem h2] at this
 exact this
theorem Jh8 (a:List (List UInt8)) (i j:Nat) (x:List UInt8) (h:i < a.length):(a.set i x).getD j zT=if i=j then x else a.getD j zT:=by
 rw [List.getD_eq_getElem?_getD,List.getElem?_set,List.getD_eq_getElem?_getD]
 split
 ·rename_i e; subst e; simp [h]
 ·rfl
theorem Juh (a:List (List UInt8)) (i:Nat) (h:i < a.length - 1 - i):((Jfg a i).set i ((Jfg a i).getD (a.length - 1 - i) zT)).set (a.length - 1 - i) ((Jfg a i).getD i zT)=Jfg a (i+1):=by
 apply Jlr (by simp [J94])
 intro j hj
 rw [List.length_set,List.length_set,J94] at hj
 rw [Jh8 _ _ _ _ (by rw [List.length_set,J94]; omega),Jh8 _ _ _ _ (by rw [J94]; omega),Jbf a i _ (by omega),Jbf a i _ (by omega),Jbf a i j hj,Jbf a (i+1) j hj]
 rw [if_neg (show ¬ (i < i∨a.length - 1 - i < i) by omega),if_neg (show ¬ (a.length - 1 - i < i∨a.length - 1 - i < a.length - 1 - i) by omega)]
 by_cases e1:a.length - 1 - i=j
 ·rw [if_pos e1,if_pos (by omega)]; congr 1; omega
 ·rw [if_neg e1]
  by_cases e2:i=j
  ·rw [if_pos e2,if_pos (by omega)]; congr 1; omega
  ·rw [if_neg e2]
   by_cases e3:j < i∨a.length - 1 - i < j
   ·rw [if_pos e3,if_pos (by omega)]
   ·rw [if_neg e3,if_neg (by omega)]
theorem rev_eq (a:List (List UInt8)) (ha:a.length≤1000000):Jj a=some a.reverse:=by
 have main:Jj_1 0 ((a.length:Int) - 1) a=some (Jfg a (a.length / 2)):=by
  have h0:Jfg a 0=a:=by
   apply Jlr (J94 a 0)
   intro j hj
   rw [J94] at hj
   rw [Jbf a 0 j hj,if_neg (by omega)]
  unfold Jj_1
  have:=J6o (step:=fun (s:Int×Int×List (List UInt8))=>Jj_1_step s.1 s.2.1 s.2.2) (fun i (_:Unit)=>((i:Int),(a.length:Int) - 1 - (i:Int),Jfg a i)) (fun _ _=>()) (fun _=>Jfg a (a.length / 2)) (a.length / 2) (fun _ _=>True) (fun i w hi _=>⟨?_,trivial⟩) (fun w _=>?_) (a.length / 2) 0 () (by omega) trivial
  ·rw [h0] at this
   simpa using this
  ·show Jj_1_step (i:Int) ((a.length:Int) - 1 - (i:Int)) (Jfg a i)=_
   unfold Jj_1_step
   have hl:=J94 a i
   have e1:Int.toNat ((a.length:Int) - 1 - (i:Int))=a.length - 1 - i:=by omega
   rw [J6g (by omega),J6d (by omega),J6d (by omega),List.length_set,J6d (by omega),e1,Int.toNat_natCast,J6h (by omega) (by omega),J6h (by omega) (by omega),Juh a i (by omega),show (a.length:Int) - 1 - (i:Int) - 1=(a.length:Int) - 1 - ((i+1:Nat):Int) from by omega]
   rfl
  ·show Jj_1_step ((a.length / 2:Nat):Int) ((a.length:Int) - 1 - ((a.length / 2:Nat):Int)) (Jfg a (a.length / 2))=_
   unfold Jj_1_step
   rw [J6e (by omega)]
 unfold Jj
 rw [J6h (by omega) (by omega),main,J6c]
 congr 1
 apply Jlr (by rw [J94,List.length_reverse])
 intro j hj
 rw [J94] at hj
 rw [Jbf a _ j hj]
 have hr:a.reverse.getD j zT=a.getD (a.length - 1 - j) zT:=by
  rw [List.getD_eq_getElem?_getD,List.getElem?_reverse hj,List.getD_eq_getElem?_getD]
 rw [hr]
 split
 ·rfl
 ·congr 1; omega
theorem Jj2:∀ (f:Nat) (l:List (List UInt8)) (i:Nat) (acc:List (List UInt8)),l.length≤f+1→l.length < 64→i < l.length∨l.length=0→acc.length≤1000 - f→f≤100→Small l→J0v_1 l (i:Int) acc=some (acc++(J86 f l i).reverse)
 | 0,l,i,acc,h,h2,hi,ha,hf,hs=>by
  unfold J0v_1
  refine J70 ?_
  unfold J0v_1_step
  rw [J6e (by show ¬ (1:Int) < (l.length:Int); omega)]
  simp [J86]
 | f+1,l,i,acc,h,h2,hi,ha,hf,hs=>by
  by_cases h1:l.length≤1
  ·rw [J86,if_pos h1]
   unfold J0v_1
   refine J70 ?_
   unfold J0v_1_step
   rw [J6e (by show ¬ (1:Int) < (l.length:Int); omega)]
   simp
  ·obtain ⟨b1,b2,b3⟩:=Jb1 l.length (by omega) (by omega)
   rw [J86,if_neg h1]
   by_cases hl:i < J6w l.length
   ·rw [if_pos hl,List.reverse_append,List.reverse_singleton,← List.append_assoc]
    have hst:J0v_1_step l (i:Int) acc=some (.inl (l.take (J6w l.length),(i:Int),acc++[J8p (l.drop (J6w l.length))])):=by
     unfold J0v_1_step
     rw [J6g (by omega),left_eq _ (by omega),J6c,J6g (by omega),J6d (by omega),J8z,Jet,Int.toNat_natCast,Jmq _ (by rw [List.length_drop]; omega) (Ja2 hs _),J6c,J6d (by simp; omega),J6d (by omega)]
    rw [← Jj2 f (l.take (J6w l.length)) i (acc++[J8p (l.drop (J6w l.length))]) (by rw [List.length_take]; omega) (by rw [List.length_take]; omega) (by rw [List.length_take]; omega) (by simp; omega) (by omega) (Ja3 hs _)]
    unfold J0v_1
    rw [J76 hst]
   ·rw [if_neg hl,List.reverse_append,List.reverse_singleton,← List.append_assoc]
    have hst:J0v_1_step l (i:Int) acc=some (.inl (l.drop (J6w l.length),((i - J6w l.length:Nat):Int),acc++[J8p (l.take (J6w l.length))])):=by
     unfold J0v_1_step
     rw [J6g (by omega),left_eq _ (by omega),J6c,J6e (by omega),J6d (by omega),J8z,Jet,Int.toNat_natCast,Jmq _ (by rw [List.length_take]; omega) (Ja3 hs _),J6c,J6d (by simp; omega),J6d (by omega),J6h (by omega) (by omega),
      show (i:Int) - ((J6w l.length:Nat):Int)=((i - J6w l.length:Nat):Int) from by omega]
    rw [← Jj2 f (l.drop (J6w l.length)) (i - J6w l.length) (acc++[J8p (l.take (J6w l.length))]) (by rw [List.length_drop]; omega) (by rw [List.length_drop]; omega) (by rw [List.length_drop]; omega) (by simp; omega) (by omega) (Ja2 hs _)]
    unfold J0v_1
    rw [J76 hst]
noncomputable def Jbe (l:List (List UInt8)) (i:Int):List (List UInt8):=if 0≤i∧i < (l.length:Int) then J86 l.length l i.toNat else []
theorem Jxk (l:List (List UInt8)) (i:Int) (h:l.length < 64) (hs:Small l):J0v l i=some (Jbe l i):=by
 unfold J0v Jbe
 by_cases h0:i < 0
 ·rw [J6g h0,if_neg (by omega)]
 ·rw [J6e h0]
  by_cases h1:(l.length:Int)≤i
  ·rw [J6g h1,if_neg (by omega)]
  ·rw [J6e h1,if_pos (by omega)]
   obtain ⟨k,rfl⟩:=Int.eq_ofNat_of_zero_le (show 0≤i by omega)
   have hl:=Jbd l.length l k
   rw [Jj2 l.length l k [] (by omega) h (by omega) (by simp) (by omega) hs,J6c]
   simp only [List.nil_append]
   rw [rev_eq _ (by rw [List.length_reverse]; omega),List.reverse_reverse]
   rfl
theorem Jgi:∀ (f i n:Nat) (acc:List Bool),n≤f+1→n≤1073741824→i < n∨n=0→acc.length≤10000000 - f→f≤5000000→J0p_1 (i:Int) (n:Int) acc=some (acc++J8w f i n)
 | 0,i,n,acc,h,h2,hi,ha,hf=>by
  unfold J0p_1
  refine J70 ?_
  unfold J0p_1_step
  rw [J6e (by show ¬ (1:Int) < (n:Int); omega)]
  simp [J8w]
 | f+1,i,n,acc,h,h2,hi,ha,hf=>by
  by_cases h1:n≤1
  ·rw [J8w,if_pos h1]
   unfold J0p_1
   refine J70 ?_
   unfold J0p_1_step
   rw [J6e (by show ¬ (1:Int) < (n:Int); omega)]
   simp
  ·obtain ⟨b1,b2,b3⟩:=Jb1 n (by omega) (by omega)
   rw [J8w,if_neg h1]
   by_cases hl:i < J6w n
   ·rw [if_pos hl,show acc++true::J8w f i (J6w n)=(acc++[true])++J8w f i (J6w n) from by simp]
    have hst:J0p_1_step (i:Int) (n:Int) acc=some (.inl ((i:Int),((J6w n:Nat):Int),acc++[true])):=by
     unfold J0p_1_step
     rw [J6g (by omega),left_eq _ (by omega),J6c,J6d (by simp; omega),decide_eq_true (show (i:Int) < ((J6w n:Nat):Int) by omega),J7g]
    rw [← Jgi f i (J6w n) (acc++[true]) (by omega) (by omega) (by omega) (by simp; omega) (by omega)]
    unfold J0p_1
    rw [J76 hst]
   ·rw [if_neg hl,show acc++false::J8w f (i - J6w n) (n - J6w n)=(acc++[false])++J8w f (i - J6w n) (n - J6w n) from by simp]
    have hst:J0p_1_step (i:Int) (n:Int) acc=some (.inl (((i - J6w n:Nat):Int),((n - J6w n:Nat):Int),acc++[false])):=by
     unfold J0p_1_step
     rw [J6g (by omega),left_eq _ (by omega),J6c,J6d (by simp; omega),decide_eq_false (show ¬ (i:Int) < ((J6w n:Nat):Int) by omega),J6j,J6h (by omega) (by omega),J6h (by omega) (by omega),
      show (i:Int) - ((J6w n:Nat):Int)=((i - J6w n:Nat):Int) from by omega,show (n:Int) - ((J6w n:Nat):Int)=((n - J6w n:Nat):Int) from by omega]
    rw [← Jgi f (i - J6w n) (n - J6w n) (acc++[false]) (by omega) (by omega) (by omega) (by simp; omega) (by omega)]
    unfold J0p_1
    rw [J76 hst]
theorem Jsu (i n:Nat) (h:i < n) (hn:n≤1000000):J0p (i:Int) (n:Int)=some (J8w n i n):=by
 unfold J0p
 rw [Jgi n i n [] (by omega) (by omega) (by omega) (by simp) (by omega),J6c]
 rfl
def isS (i n:Int):Bool:=decide (0≤i) && (decide (i < n) && decide (n≤1048576))
theorem is_eq (i n:Int):J5u i n=some (isS i n):=by
 unfold J5u isS
 simp only [Jh6]
 cases decide (0≤i) <;> cases decide (i < n) <;> simp
theorem Jm5 (i n:Int):isS i n=true↔0≤i∧i < n∧n≤1048576:=by
 unfold isS; simp
theorem Jze (i n:Int) (hn:n≤1000000∨1048576 < n):J5r i n=some (if isS i n then ((J8w n.toNat i.toNat n.toNat).length:Int) else -1):=by
 unfold J5r
 rw [is_eq,J6c]
 cases h:isS i n with
 | false=>rfl
 | true=>
  obtain ⟨h1,h2,h3⟩:=(Jm5 i n).1 h
  obtain ⟨a,rfl⟩:=Int.eq_ofNat_of_zero_le h1
  obtain ⟨b,rfl⟩:=Int.eq_ofNat_of_zero_le (show 0≤n by omega)
  rw [show (!true)=false from rfl,J6j,Jsu a b (by omega) (by omega),J6c]
  rfl
def Jch:List Bool→List (List UInt8)→List UInt8→List UInt8
 | b::bs,p::ps,h=>Jch bs ps (if b then Jf0 h p else Jf0 p h)
 | _,_,h=>h
theorem Jdc:∀ (bs:List Bool) (ps:List (List UInt8)) (h:List UInt8) (b:Bool) (p:List UInt8),bs.length=ps.length→Jch (bs++[b]) (ps++[p]) h=if b then Jf0 (Jch bs ps h) p else Jf0 p (Jch bs ps h)
 | [],[],h,b,p,_=>rfl
 | x::bs,y::ps,h,b,p,e=>by
  show Jch (bs++[b]) (ps++[p]) _=_
  rw [Jdc bs ps _ b p (by simpa using e)]
  rfl
 | [],_::_,_,_,_,e=>by simp at e
 | _::_,[],_,_,_,e=>by simp at e
theorem Jlb:∀ (bs:List Bool) (ps:List (List UInt8)) (h:List UInt8),h.length=32→(Jch bs ps h).length=32
 | [],_,h,e=>by simpa [Jch] using e
 | _::_,[],h,e=>by simpa [Jch] using e
 | b::bs,p::ps,h,e=>by
  rw [Jch]
  exact Jlb bs ps _ (by split <;> exact J81 _)
theorem Jti (bs:List Bool) (ps:List (List UInt8)) (h:List UInt8) (i:Nat) (h1:i < bs.length) (h2:i < ps.length) :
  Jch (bs.take (i+1)) (ps.take (i+1)) h=if bs.getD i false then Jf0 (Jch (bs.take i) (ps.take i) h) (ps.getD i zT) else Jf0 (ps.getD i zT) (Jch (bs.take i) (ps.take i) h):=by
 rw [List.take_add_one,List.take_add_one,List.getElem?_eq_getElem h1,List.getElem?_eq_getElem h2,Option.toList_some,Option.toList_some,Jdc _ _ _ _ _ (by simp; omega)]
 rw [List.getD_eq_getElem?_getD,List.getElem?_eq_getElem h1,List.getD_eq_getElem?_getD,List.getElem?_eq_getElem h2]
 rfl
theorem K49 (z h:List UInt8) (l:List Bool) (p:List (List UInt8)) (hl:l.length=p.length) (hp:∀ x ∈ p,x.length=32) (hh:h.length=32) (hb:p.length≤100000):J2j_1 p (p.length:Int) 0 z h l=some (z,Jch l.reverse p h):=by
 unfold J2j_1
 have:=J6o (step:=fun (s:Int×List UInt8)=>J2j_1_step p (p.length:Int) s.1 z s.2 l) (fun i (_:Unit)=>((i:Int),Jch (l.reverse.take i) (p.take i) h)) (fun _ _=>()) (fun _=>(z,Jch l.reverse p h)) p.length (fun _ _=>True) (fun i w hi _=>⟨?_,trivial⟩) (fun w _=>?_) p.length 0 () (by omega) trivial
 ·exact this
 ·show J2j_1_step p (p.length:Int) (i:Int) z (Jch (l.reverse.take i) (p.take i) h) l=_
  unfold J2j_1_step
  have hg:(p.getD i (List.replicate 32 0)).length=32:=by
   rw [List.getD_eq_getElem?_getD,List.getElem?_eq_getElem hi]; exact hp _ (List.getElem_mem _)
  have hc:=Jlb (l.reverse.take i) (p.take i) h hh
  have hr:l.getD (l.length - 1 - i) false=l.reverse.getD i false:=by
   rw [List.getD_eq_getElem?_getD,List.getD_eq_getElem?_getD,List.getElem?_reverse (by omega)]
  rw [J6g (by omega),J6d (by omega),J6h (n:=(l.length:Int) - 1) (by omega) (by omega),J6h (by omega) (by omega),J6d (by omega),show Int.toNat ((l.length:Int) - 1 - (i:Int))=l.length - 1 - i from by omega,hr,Int.toNat_natCast,Jm4 _ _ hc hg,Jm4 _ _ hg hc,J6c,J6c,J6h (by omega) (by omega),
   Jti _ _ _ _ (by rw [List.length_reverse]; omega) hi]
  cases l.reverse.getD i false <;> rfl
 ·show J2j_1_step p (p.length:Int) (p.length:Int) z _ l=_
  unfold J2j_1_step
  rw [J6e (by omega),List.take_of_length_le (Nat.le_refl _),List.take_of_length_le (by rw [List.length_reverse]; omega)]
def upS (leaf:List UInt8) (i n:Int) (p:List (List UInt8)):List UInt8×Bool:=
 if isS i n∧p.length=(J8w n.toNat i.toNat n.toNat).length then (Jch (J8w n.toNat i.toNat n.toNat).reverse p (K2u leaf),true) else (zT,false)
theorem up_eq (leaf:List UInt8) (hf:leaf.length≤1000000) (i n:Int) (hn:n≤1000000) (p:List (List UInt8)) (hp:∀ x ∈ p,x.length=32) (hb:p.length≤100000):J2j leaf i n p=some (upS leaf i n p):=by
 unfold J2j upS
 rw [is_eq,J6c]
 cases h:isS i n with
 | false=>rw [if_neg (by simp)]; rfl
 | true=>
  obtain ⟨h1,h2,h3⟩:=(Jm5 i n).1 h
  rw [show (!true)=false from rfl,J6j,Jze i n (.inl hn),h,if_pos rfl,J6c]
  by_cases e:p.length=(J8w n.toNat i.toNat n.toNat).length
  ·rw [J90 (by omega),if_pos ⟨rfl,e⟩,Jmq [leaf] (by simp) (by intro x hx; simp at hx; rw [hx]; exact hf),J6c]
   have hsd:=Jsu i.toNat n.toNat (by omega) (by omega)
   rw [show ((i.toNat:Nat):Int)=i from by omega,show ((n.toNat:Nat):Int)=n from by omega] at hsd
   rw [hsd,J6c,K49 _ _ _ _ e.symm hp (J80 _) hb,J6c,Jd0]
  ·rw [Jaz (by omega),if_neg (fun h=>e h.2)]
theorem Jme:∀ (f:Nat) (l:List (List UInt8)) (i:Nat),i < l.length→l.length≤f+1→l.length≤1000→Jch (J8w f i l.length).reverse (J86 f l i) (K2u (l.getD i []))=J8p l
 | 0,l,i,hi,h,h2=>by
  match l,hi,h with
  | [x],hi,h=>
   have:i=0:=by simp at hi; exact hi
   subst this
   rw [Jd0]; rfl
 | f+1,l,i,hi,h,h2=>by
  rw [J8w,J86]
  by_cases h1:l.length≤1
  ·rw [if_pos h1,if_pos h1]
   match l,hi,h1 with
   | [x],hi,h1=>
    have:i=0:=by simp at hi; exact hi
    subst this
    rw [Jd0]; rfl
  ·obtain ⟨b1,b2,b3⟩:=Jb1 l.length (by omega) (by omega)
   rw [if_neg h1,if_neg h1,Jje l (by omega) (by omega)]
   by_cases hl:i < J6w l.length
   ·rw [if_pos hl,if_pos hl,List.reverse_cons,Jdc _ _ _ _ _ (by rw [List.length_reverse,Ja0 f _ _ (by rw [List.length_take]; omega),List.length_take,Nat.min_eq_left (by omega)]),if_pos rfl]
    have ih:=Jme f (l.take (J6w l.length)) i (by rw [List.length_take]; omega) (by rw [List.length_take]; omega) (by rw [List.length_take]; omega)
    rw [List.length_take,Nat.min_eq_left (by omega)] at ih
    have hg:(l.take (J6w l.length)).getD i []=l.getD i []:=by
     rw [List.getD_eq_getElem?_getD,List.getD_eq_getElem?_getD,List.getElem?_take_of_lt hl]
    rw [hg] at ih
    rw [ih]
   ·rw [if_neg hl,if_neg hl,List.reverse_cons,Jdc _ _ _ _ _ (by rw [List.length_reverse,Ja0 f _ _ (by rw [List.length_drop]; omega),List.length_drop]),if_neg (by simp)]
    have ih:=Jme f (l.drop (J6w l.length)) (i - J6w l.length) (by rw [List.length_drop]; omega) (by rw [List.length_drop]; omega) (by rw [List.length_drop]; omega)
    rw [List.length_drop] at ih
    have hg:(l.drop (J6w l.length)).getD (i - J6w l.length) []=l.getD i []:=by
     rw [List.getD_eq_getElem?_getD,List.getD_eq_getElem?_getD,List.getElem?_drop]; congr 2; omega
    rw [hg] at ih
    rw [ih]
theorem Jo1:∀ (f k n:Nat),n≤2 * k * 2 ^ f→1≤k→n≤1073741824→k≤1073741824→J03_1 (n:Int) (k:Int)=some ((Jjv f k n:Nat):Int)
 | 0,k,n,h,h1,h2,hk=>by
  unfold J03_1
  refine J70 ?_
  unfold J03_1_step
  simp only [Nat.pow_zero,Nat.mul_one] at h
  rw [J6h (by omega) (by omega),J6e (by omega)]
  rfl
 | f+1,k,n,h,h1,h2,hk=>by
  rw [Jjv]
  split
  ·rename_i hlt
   rw [← Jo1 f (2 * k) n (by rw [Nat.pow_succ] at h; rw [Jmg]; exact h) (by omega) h2 (by omega)]
   have hs:J03_1_step (n:Int) (k:Int)=some (.inl ((2 * k:Nat):Int)):=by
    unfold J03_1_step
    rw [J6h (by omega) (by omega),J6g (by omega),show 2 * (k:Int)=((2 * k:Nat):Int) from by omega]
   unfold J03_1
   rw [J76 hs]
  ·rename_i hlt
   unfold J03_1
   refine J70 ?_
   unfold J03_1_step
   rw [J6h (by omega) (by omega),J6e (by omega)]
theorem Jwj (n:Nat) (h:n≤1073741824):J03 (n:Int)=some ((J6w n:Nat):Int):=by
 unfold J03
 rw [show (1:Int)=((1:Nat):Int) from rfl,Jo1 40 1 n (by omega) (by omega) h (by omega),J6c]
 rfl
theorem Jxv (a b:List UInt8) (ha:a.length=32) (hb:b.length=32):Je 1 [a,b]=some (Jf0 a b):=by
 have hf:[a,b].flatten=a++b:=by simp
 rw [J7s _ _ (by rw [hf,List.length_append]; omega) (by simp),hf]
 rfl
theorem Jge:∀ (k:Nat) (l:List (List UInt8)),l.length < k→l.length≤1000→Small l→J08_f k l=some (J8p l)
 | 0,l,h,_,_=>by omega
 | k+1,l,h,h2,hl=>by
  rw [J08_f]
  match l,h,h2,hl with
  | [],h,h2,hl=>
   rw [J6g (by simp),J7s _ _ (by simp) (by simp),Jks]; rfl
  | [x],h,h2,hl=>
   have hx:=hl x (by simp)
   have hf:[List.getD [x] (Int.toNat (0:Int)) []].flatten=x:=by simp
   rw [J6e (by simp),J6g (by simp),J6d (by simp),J7s _ _ (by rw [hf]; omega) (by simp),hf,Jd0]; rfl
  | x::y::r,h,h2,hl=>
   have hn:2≤(x::y::r).length:=by simp
   generalize x::y::r=l at h h2 hl hn
   obtain ⟨b1,b2,b3⟩:=Jb1 l.length hn (by omega)
   rw [J6e (by omega),J6e (by omega),Jwj _ (by omega),J6c,J6d (by omega),Jet,J8z,Int.toNat_natCast,Jge k (l.take (J6w l.length)) (by rw [List.length_take]; omega) (by rw [List.length_take]; omega) (Ja3 hl _),J6c,J6d (by omega),
    Jge k (l.drop (J6w l.length)) (by rw [List.length_drop]; omega) (by rw [List.length_drop]; omega) (Ja2 hl _),J6c,Jxv _ _ (J80 _) (J80 _),J6c,Jje l hn (by omega)]
theorem Jhi (l:List (List UInt8)) (h:l.length < 64) (hl:Small l):J08 l=some (J8p l):=Jge 64 l h (by omega) hl
theorem Jgc:∀ (k:Nat) (l:List (List UInt8)) (i:Int),l.length < k→l.length < 64→Small l→J0z_f k l i=some (if 0≤i∧i < (l.length:Int) then J86 l.length l i.toNat else [])
 | 0,l,i,h,_,_=>by omega
 | k+1,l,i,h,h2,hl=>by
  rw [J0z_f]
  by_cases h0:i < 0
  ·rw [J6g h0,if_neg (by omega)]
  ·rw [J6e h0]
   by_cases h1:(l.length:Int)≤i
   ·rw [J6g h1,if_neg (by omega)]
   ·rw [J6e h1,if_pos (by omega)]
    by_cases h3:l.length=1
    ·rw [J6g (by omega),h3,J86,if_pos (by omega)]
    ·rw [J6e (by omega),Jwj _ (by omega),J6c]
     obtain ⟨b1,b2,b3⟩:=Jb1 l.length (by omega) (by omega)
     obtain ⟨q,hq⟩:∃ q,l.length=q+1:=⟨l.length - 1,by omega⟩
     have hp:J86 l.length l i.toNat=if i.toNat < J6w l.length then J86 q (l.take (J6w l.length)) i.toNat++[J8p (l.drop (J6w l.length))] else J86 q (l.drop (J6w l.length)) (i.toNat - J6w l.length)++[J8p (l.take (J6w l.length))]:=by
      conv=>lhs; rw [hq]
      rw [J86,if_neg (by omega)]
     rw [hp]
     by_cases h4:i.toNat < J6w l.length
     ·have lt:(l.take (J6w l.length)).length=J6w l.length:=by rw [List.length_take]; omega
      have hpl:=Jbd q (l.take (J6w l.length)) i.toNat
      rw [if_pos h4,J6g (by omega),J6d (by omega),Jet,J8z,Int.toNat_natCast,Jgc k (l.take (J6w l.length)) i (by omega) (by omega) (Ja3 hl _),J6c,if_pos (by omega),J6d (by omega),Jhi _ (by rw [List.length_drop]; omega) (Ja2 hl _),J6c,
       Jdh _ q _ _ (by omega) (by omega) (by omega),J6d (by simp; omega)]
     ·have ld:(l.drop (J6w l.length)).length=l.length - J6w l.length:=by rw [List.length_drop]
      have hpl:=Jbd q (l.drop (J6w l.length)) (i.toNat - J6w l.length)
      rw [if_neg h4,J6e (by omega),J6d (by omega),Jet,J8z,Int.toNat_natCast,J6h (by omega) (by omega),Jgc k (l.drop (J6w l.length)) (i - ((J6w l.length:Nat):Int)) (by omega) (by omega) (Ja2 hl _),J6c,if_pos (by omega),J6d (by omega),Jhi _ (by rw [List.length_take]; omega) (Ja3 hl _),J6c,
       show Int.toNat (i - ((J6w l.length:Nat):Int))=i.toNat - J6w l.length from by omega,Jdh _ q _ _ (by omega) (by omega) (by omega),J6d (by simp; omega)]
theorem K06 (l:List (List UInt8)) (i:Int) (h:l.length < 64) (hl:Small l):J0z l i=some (Jbe l i):=Jgc 64 l i h h hl
abbrev Prf:=Int×Int×List Pr×List (List (List UInt8))×Unit
def Jeb (p:Pr):List UInt8:=txtS p.1++txtS p.2.1
def J6z (l:List Pr):List (List UInt8):=l.map Jeb
def KvOk (l:List Pr):Prop:=l.length≤60∧∀ p ∈ l,p.1.length≤100000∧p.2.1.length≤100000
theorem J7h (l:List Pr):(J6z l).length=l.length:=by simp [J6z]
theorem Jo9 {p:Pr} (h:p.1.length≤100000∧p.2.1.length≤100000):(Jeb p).length≤200100:=by
 have a:=Jjn p.1
 have b:=Jjn p.2.1
 unfold Jeb; rw [List.length_append]; omega
theorem Jf4 {l:List Pr} (h:KvOk l):Small (J6z l):=by
 intro x hx
 obtain ⟨p,hp,rfl⟩:=List.mem_map.1 hx
 have:=Jo9 (h.2 p hp)
 omega
theorem Jqd (p:Pr) (h:p.1.length≤100000∧p.2.1.length≤100000):J4t p=some (Jeb p):=by
 have:=Jt4 [p.1,p.2.1] (by simp) (fun x hx=>by
  rcases List.mem_cons.1 hx with rfl | hx
  ·exact h.1
  ·rcases List.mem_cons.1 hx with rfl | hx
   ·exact h.2
   ·cases hx)
 have e:([p.1,p.2.1]:List (List UInt8)).flatMap txtS=Jeb p:=by simp [Jeb]
 rw [e] at this
 unfold J4t
 rw [this,J6c]
theorem Jgr (l:List Pr) {i:Nat} (hi:i < l.length):J6z (l.take i)++[Jeb (l.getD i zPr)]=J6z (l.take (i+1)):=by
 unfold J6z
 rw [List.take_add_one,List.map_append,List.getElem?_eq_getElem hi,List.getD_eq_getElem?_getD,List.getElem?_eq_getElem hi]; rfl
theorem Jkw (x0:List Pr) (x1:Int) (x2:Int) (x3:List Pr) (x4:Int) (x5:Int) (x6:Int) (x7:Int) (x8:Unit) (x9:Int) (x10:Int) (x11:Unit) (x12:List (List UInt8)):J07_1_step x0 x1 x2 x3 x4 x5 x6 x7 x8 x9 x10 x11 x12 =
  (fork (decide (x5 < x4)) (need (0≤x5∧x5 < (List.length x3:Int)) (andThen (J4t (List.getD x3 (Int.toNat x5) zPr)) (fun u5=>need (List.length x12+List.length ([u5]:List (List UInt8))≤2147483648) (some (.inl ((w64 (x5+(1:Int))),(x12++([u5]:List (List UInt8))))))))) (some (.inr (x0,x1,x2,x6,x7,x8,x9,x10,x11,x12))):Option ((Int×List (List UInt8))⊕((List Pr)×Int×Int×Int×Int×Unit×Int×Int×Unit×List (List UInt8)))):=rfl
theorem Jkx (x0:List Pr) (x1:Int) (x2:Int) (x3:Int) (x4:Int) (x5:Unit) (x6:Int) (x7:Int) (x8:Unit) (x9:List Pr) (x10:List (List (List UInt8))) (x11:List (List UInt8)):J07_2_step x0 x1 x2 x3 x4 x5 x6 x7 x8 x9 x10 x11 =
  (fork (decide (x2 < x1)) (need (0≤x2∧x2 < (List.length x0:Int)) (need (List.length x9+List.length ([(List.getD x0 (Int.toNat x2) zPr)]:List Pr)≤2147483648) (andThen (J0v x11 x2) (fun u14=>need (List.length x10+List.length ([u14]:List (List (List UInt8)))≤2147483648) (some (.inl ((w64 (x2+(1:Int))),(x9++([(List.getD x0 (Int.toNat x2) zPr)]:List Pr)),(x10++([u14]:List (List (List UInt8))))))))))) (some (.inr (x3,x4,x5,x6,x7,x8,x9,x10))):Option ((Int×(List Pr)×List (List (List UInt8)))⊕(Int×Int×Unit×Int×Int×Unit×(List Pr)×List (List (List UInt8))))):=rfl
noncomputable def J9a (l:List Pr) (f n:Nat):List (List (List UInt8)):=(List.range n).map fun j=>Jbe (J6z l) ((f+j:Nat):Int)
noncomputable def J88 (l:List Pr) (f t:Nat):Prf:=if t≤f then ((l.length:Int),0,[],[],()) else ((l.length:Int),(f:Int),(l.drop f).take (t - f),J9a l f (t - f),())
theorem Jj3 (l:List Pr) (f n:Nat):J9a l f (n+1)=J9a l f n++[Jbe (J6z l) ((f+n:Nat):Int)]:=by
 unfold J9a
 rw [List.range_succ,List.map_append]; rfl
theorem Jdu (l:List Pr) {f n:Nat} (h:f+n < l.length):(l.drop f).take (n+1)=(l.drop f).take n++[l.getD (f+n) zPr]:=by
 rw [List.take_add_one,List.getElem?_drop,List.getElem?_eq_getElem h,List.getD_eq_getElem?_getD,List.getElem?_eq_getElem h]; rfl
theorem Jsb (l:List Pr) (h:KvOk l) (a b:Int):J07 l a b=some (J88 l (max a 0).toNat (min b (l.length:Int)).toNat):=by
 have hl:=h.1
 unfold J07
 by_cases c:min b (l.length:Int)≤max a 0
 ·rw [J6g c]
  unfold J88
  rw [if_pos (by omega)]
 ·rw [J6e c]
  have ef:max a 0=(((max a 0).toNat:Nat):Int):=by omega
  have et:min b (l.length:Int)=(((min b (l.length:Int)).toNat:Nat):Int):=by omega
  generalize hF:(max a 0).toNat=F at *
  generalize hT:(min b (l.length:Int)).toNat=T at *
  rw [ef,et]
  rw [ef,et] at c
  have hFT:F < T:=by omega
  have hTl:T≤l.length:=by omega
  clear hF hT ef et c
  have m1:J07_1 l (F:Int) (T:Int) l (l.length:Int) 0 0 0 () (l.length:Int) 0 () []=some (l,(F:Int),(T:Int),0,0,(),(l.length:Int),0,(),J6z l):=by
   unfold J07_1
   have:=J6o (step:=fun (s:Int×List (List UInt8))=>J07_1_step l (F:Int) (T:Int) l (l.length:Int) s.1 0 0 () (l.length:Int) 0 () s.2) (fun i (_:Unit)=>((i:Int),J6z (l.take i))) (fun _ _=>()) (fun _=>(l,(F:Int),(T:Int),0,0,(),(l.length:Int),0,(),J6z l)) l.length (fun _ _=>True) (fun i w hi _=>⟨?_,trivial⟩) (fun w _=>?_) l.length 0 () (by omega) trivial
   ·exact this
   ·show J07_1_step l (F:Int) (T:Int) l (l.length:Int) (i:Int) 0 0 () (l.length:Int) 0 () (J6z (l.take i))=_
    rw [Jkw,J6g (by omega),J6d (by omega),Int.toNat_natCast,Jqd _ (h.2 _ (J7e hi)),J6c,J6d (by rw [J7h,List.length_take]; simp only [List.length_cons,List.length_nil]; omega),Jgr l hi,J6h (by omega) (by omega)]
    rfl
   ·show J07_1_step l (F:Int) (T:Int) l (l.length:Int) (l.length:Int) 0 0 () (l.length:Int) 0 () (J6z (l.take l.length))=_
    rw [Jkw,J6e (by omega),List.take_of_length_le (Nat.le_refl _)]
  have m2:J07_2 l (T:Int) (F:Int) 0 0 () (l.length:Int) (F:Int) () [] [] (J6z l)=some (0,0,(),(l.length:Int),(F:Int),(),(l.drop F).take (T - F),J9a l F (T - F)):=by
   unfold J07_2
   have:=J6o (step:=fun (s:Int×(List Pr)×List (List (List UInt8)))=>J07_2_step l (T:Int) s.1 0 0 () (l.length:Int) (F:Int) () s.2.1 s.2.2 (J6z l)) (fun i (_:Unit)=>(((F+i:Nat):Int),(l.drop F).take i,J9a l F i)) (fun _ _=>()) (fun _=>(0,0,(),(l.length:Int),(F:Int),(),(l.drop F).take (T - F),J9a l F (T - F))) (T - F) (fun _ _=>True) (fun i w hi _=>⟨?_,trivial⟩) (fun w _=>?_) (T - F) 0 () (by omega) trivial
   ·exact this
   ·show J07_2_step l (T:Int) ((F+i:Nat):Int) 0 0 () (l.length:Int) (F:Int) () ((l.drop F).take i) (J9a l F i) (J6z l)=_
    have e1:((l.drop F).take i).length≤60:=by rw [List.length_take,List.length_drop]; omega
    have e2:(J9a l F i).length=i:=by simp [J9a]
    rw [Jkx,J6g (by omega),J6d (by omega),Int.toNat_natCast,J6d (by simp only [List.length_cons,List.length_nil]; omega),Jxk (J6z l) _ (by rw [J7h]; omega) (Jf4 h),J6c,J6d (by simp only [List.length_cons,List.length_nil]; omega),J6h (by omega) (by omega),← Jdu l (by omega),← Jj3]
    congr 3
   ·show J07_2_step l (T:Int) ((F+(T - F):Nat):Int) 0 0 () (l.length:Int) (F:Int) () ((l.drop F).take (T - F)) (J9a l F (T - F)) (J6z l)=_
    rw [Jkx,J6e (by omega)]
  rw [m1,J6c]
  simp only
  rw [m2,J6c]
  unfold J88
  rw [if_neg (by omega)]
theorem Jse (l:List Pr) (h:KvOk l) (hr:J7v l) (a b:List UInt8):J4r l a b=some (J88 l (J6l l a - 1) (min (J6l l (maxS a b)+1) l.length)):=by
 have hl:=h.1
 have h1:=below_le l a
 have h2:=below_le l (maxS a b)
 unfold J4r
 rw [Jco l hr (by omega),J6c,Jco l hr (by omega),J6c,J6h (by omega) (by omega),J6h (by omega) (by omega),Jsb l h,J6c]
 congr 2 <;> omega
theorem Jzs (l:List Pr) (h:KvOk l) (hr:J7v l) (k:List UInt8):J5k l k=some (if isAt l k then (J88 l (J6l l k) (J6l l k+1),true) else ((0,0,[],[],()),false)):=by
 have hl:=h.1
 have h1:=below_le l k
 unfold J5k
 rw [Jcp l hr (by omega),J6c]
 cases c:isAt l k with
 | false=>rfl
 | true=>
  have:=c
  unfold isAt at this
  rw [decide_eq_true_eq] at this
  rw [if_pos rfl,Bool.not_true,J6j,Jco l hr (by omega),J6c,J6h (by omega) (by omega),Jsb l h,J6c,if_pos rfl]
  congr 3 <;> omega
theorem Joj (a:List UInt8):maxS a a=a:=by unfold maxS; cases J6v a a <;> rfl
theorem Juy (l:List Pr) (h:KvOk l) (hr:J7v l) (k:List UInt8):J59 l k=some (if isAt l k then ((0,0,[],[],()),false) else (J88 l (J6l l k - 1) (min (J6l l k+1) l.length),true)):=by
 have hl:=h.1
 unfold J59
 rw [Jcp l hr (by omega),J6c]
 cases c:isAt l k with
 | true=>rfl
 | false=>
  rw [if_neg (by simp),J6j,Jse l h hr,Joj,J6c,if_neg (by simp)]
theorem Js8 (l:List Pr) (h:l.length≤60) (f n:Nat):(J9a l f n).length=n∧∀ x ∈ J9a l f n,x.length≤60:=by
 refine ⟨by simp [J9a],fun x hx=>?_⟩
 obtain ⟨j,_,rfl⟩:=List.mem_map.1 hx
 unfold Jbe
 split
 ·have:=Jbd (J6z l).length (J6z l) ((f+j:Nat):Int).toNat
  rw [J7h] at this ⊢; omega
 ·exact Nat.zero_le _
theorem Km (n:Nat) (h:n≤1000000000):J2g (n:Int)=some []:=by
 unfold J2g
 rw [J6e (by omega),Int.sub_zero,J6h (by omega) (by omega)]
 by_cases c:(0:Int) < (n:Int)
 ·rw [J6g c,J6d ⟨rfl,rfl⟩,J6d (by rw [List.length_replicate]; omega),J6d (by omega),J6d (by rw [List.length_replicate]; omega)]
  rfl
 ·rw [J6e c]
theorem Jua (l:List (List Pr)) (h:l.flatten.length≤1000000000) (hl:l.length≤1000000):J3 l=some l.flatten:=by
 have ht:∀ i,((l.take i).flatten).length≤1000000000:=fun i=>Nat.le_trans (Jav l i) h
 have m1:J3_1 l 0 l (l.length:Int) 0=some (l,(l.flatten.length:Int)):=by
  unfold J3_1
  have:=J6o (step:=fun (s:Int×Int)=>J3_1_step l s.1 l (l.length:Int) s.2) (fun i (_:Unit)=>((((l.take i).flatten).length:Int),(i:Int))) (fun _ _=>()) (fun _=>(l,(l.flatten.length:Int))) l.length (fun _ _=>True) (fun i w hi _=>⟨?_,trivial⟩) (fun w _=>?_) l.length 0 () (by omega) trivial
  ·exact this
  ·show J3_1_step l (((l.take i).flatten).length:Int) l (l.length:Int) (i:Int)=_
   unfold J3_1_step
   have e:=congrArg List.length (getD_take l hi)
   rw [List.length_append] at e
   have b:=ht (i+1)
   rw [J6g (by omega),J6d (by omega),Int.toNat_natCast,J6h (n:=(((l.take i).flatten).length:Int)+((l.getD i []).length:Int)) (by omega) (by omega),J6e (by omega),J6h (by omega) (by omega)]
   congr 3
   omega
  ·show J3_1_step l (((l.take l.length).flatten).length:Int) l (l.length:Int) (l.length:Int)=_
   unfold J3_1_step
   rw [J6e (by omega),List.take_of_length_le (Nat.le_refl _)]
 have m2:J3_2 l (l.length:Int) 0 []=some l.flatten:=by
  unfold J3_2
  have:=J6o (step:=fun (s:Int×List Pr)=>J3_2_step l (l.length:Int) s.1 s.2) (fun i (_:Unit)=>((i:Int),(l.take i).flatten)) (fun _ _=>()) (fun _=>l.flatten) l.length (fun _ _=>True) (fun i w hi _=>⟨?_,trivial⟩) (fun w _=>?_) l.length 0 () (by omega) trivial
  ·exact this
  ·show J3_2_step l (l.length:Int) (i:Int) ((l.take i).flatten)=_
   unfold J3_2_step
   have e:=congrArg List.length (getD_take l hi)
   rw [List.length_append] at e
   have b:=ht (i+1)
   rw [J6g (by omega),J6d (by omega),Int.toNat_natCast,J6d (by omega),J6h (by omega) (by omega),getD_take l hi]
   rfl
  ·show J3_2_step l (l.length:Int) (l.length:Int) ((l.take l.length).flatten)=_
   unfold J3_2_step
   rw [J6e (by omega),List.take_of_length_le (Nat.le_refl _)]
 unfold J3
 rw [m1,J6c]
 simp only
 rw [Km _ h,J6c,m2,J6c]
abbrev Stt:=List Pr×Int×List (List Pr)×Unit
def mayP (p:Pr):Bool:=!decide (p.1=[]) && (decide ((p.1.length:Int)≤16) && decide ((p.2.1.length:Int)≤24))
theorem Jx0 (p:Pr):J5v p=some (mayP p):=by
 unfold J5v mayP
 cases decide (p.1=[]) <;> cases decide ((p.1.length:Int)≤16) <;> rfl
def putP (l:List Pr) (p:Pr):List Pr:=if isAt l p.1 then l.take (J6l l p.1)++p::l.drop (J6l l p.1+1) else l.take (J6l l p.1)++p::l.drop (J6l l p.1)
def setP (l:List Pr) (p:Pr):List Pr×Bool:=if mayP p && (isAt l p.1 || decide (l.length < 30)) then (putP l p,true) else (l,false)
theorem Je8 {l:List Pr} {k:List UInt8} (h:isAt l k=true):J6l l k < l.length∧(l.getD (J6l l k) zPr).1=k:=by
 unfold isAt at h; rw [decide_eq_true_eq] at h; exact h
theorem Jqa (l:List Pr) (hr:J7v l) (hl:l.length≤1000) (p:Pr):J58 l p=some (setP l p):=by
 have hb:=below_le l p.1
 have c3:∀ a b c:List Pr,J3 [a,b,c]=some (a++(b++(c++[])))∨1000000000 < (a++(b++(c++[]))).length:=fun a b c=>by
  by_cases q:([a,b,c]:List (List Pr)).flatten.length≤1000000000
  ·exact .inl (Jua _ q (by simp))
  ·right
   have:([a,b,c]:List (List Pr)).flatten=a++(b++(c++[])):=rfl
   rw [← this]; omega
 have c4:∀ a c:List Pr,a.length≤1000→c.length≤1000→J3 [a,[p],c]=some (a++p::c):=fun a c h1 h2=>by
  rcases c3 a [p] c with e | e
  ·rw [e,List.append_nil]; rfl
  ·simp only [List.length_append,List.length_cons,List.length_nil] at e; omega
 unfold J58 setP putP
 rw [Jfd l hr hl,J6c,Jx0,J6c,J6h (by omega) (by omega)]
 cases hm:mayP p with
 | false=>rfl
 | true=>
  rw [Bool.not_true,J6j,Bool.true_and]
  cases ha:isAt l p.1 with
  | true=>
   have:=(Je8 ha).1
   have e1:cutL l 0 (J6l l p.1:Int)=l.take (J6l l p.1):=by rw [Jet,Int.toNat_natCast]
   have e2:cutL l ((J6l l p.1:Int)+1) (l.length:Int)=l.drop (J6l l p.1+1):=by rw [J8z]; rfl
   rw [Bool.not_true,J6j,J7g,J6d (by omega),J6d (by omega),e1,e2,c4 _ _ (by rw [List.length_take]; omega) (by rw [List.length_drop]; omega),J6c,Bool.true_or,if_pos rfl,if_pos rfl]
  | false=>
   have e1:cutL l 0 (J6l l p.1:Int)=l.take (J6l l p.1):=by rw [Jet,Int.toNat_natCast]
   have e2:cutL l (J6l l p.1:Int) (l.length:Int)=l.drop (J6l l p.1):=by rw [J8z,Int.toNat_natCast]
   rw [Bool.not_false,J7g,Bool.false_or]
   by_cases c:l.length < 30
   ·rw [J6e (by omega),J6j,J6d (by omega),J6d (by omega),e1,e2,c4 _ _ (by rw [List.length_take]; omega) (by rw [List.length_drop]; omega),J6c,decide_eq_true c,if_pos rfl,if_neg (by simp)]
   ·rw [J6g (by omega),decide_eq_false c,if_neg (by simp)]
theorem Jty {l:List Pr} (h:J7v l) (n:Nat):J7v (l.take n):=h.sublist (List.take_sublist n l)
theorem Jtx {l:List Pr} (h:J7v l) (n:Nat):J7v (l.drop n):=h.sublist (List.drop_sublist n l)
theorem Jqf {l:List Pr} {k:List UInt8} {p:Pr} (h:p ∈ l.take (J6l l k)):J6v p.1 k=true:=by
 obtain ⟨i,hi,rfl⟩:=List.getElem_of_mem h
 rw [List.length_take] at hi
 rw [List.getElem_take]
 have:=Jdb l k i (by omega)
 rw [List.getD_eq_getElem?_getD,List.getElem?_eq_getElem (by omega)] at this
 exact this
theorem Jgt {l:List Pr} {n:Nat} {p:Pr} (h:p ∈ l.drop n):∃ i,n≤i∧i < l.length∧l.getD i zPr=p:=by
 obtain ⟨i,hi,rfl⟩:=List.getElem_of_mem h
 rw [List.length_drop] at hi
 refine ⟨n+i,by omega,by omega,?_⟩
 rw [List.getElem_drop,List.getD_eq_getElem?_getD,List.getElem?_eq_getElem (by omega)]; rfl
theorem Jvx {l:List Pr} (hr:J7v l) {k:List UInt8} {n:Nat} (h:isAt l k=false∧n=J6l l k∨isAt l k=true∧n=J6l l k+1) {p:Pr} (hp:p ∈ l.drop n):J6v k p.1=true:=by
 obtain ⟨i,h1,h2,rfl⟩:=Jgt hp
 rcases h with ⟨ha,rfl⟩ | ⟨ha,rfl⟩
 ·have b:J6v (l.getD i zPr).1 k=false:=by
   cases q:J6v (l.getD i zPr).1 k with
   | false=>rfl
   | true=>have:=(J8g hr k h2).1 q; omega
  rcases Jfm _ _ b with e | e
  ·exact absurd ((Jrr hr k).2 ⟨_,J7e h2,e⟩) (by rw [ha]; simp)
  ·exact e
 ·have e:=(Je8 ha).2
  have:=Jf2 hr (i:=J6l l k) (j:=i) (by omega) h2
  rw [e] at this; exact this
theorem Jxo {l:List Pr} (hr:J7v l) (p:Pr):J7v (putP l p):=by
 have key:∀ n,(isAt l p.1=false∧n=J6l l p.1∨isAt l p.1=true∧n=J6l l p.1+1)→J7v (l.take (J6l l p.1)++p::l.drop n):=fun n hn=>by
  refine List.pairwise_append.2 ⟨Jty hr _,List.pairwise_cons.2 ⟨fun q hq=>Jvx hr hn hq,Jtx hr _⟩,fun a ha b hb=>?_⟩
  have h1:=Jqf ha
  rcases List.mem_cons.1 hb with rfl | hb
  ·exact h1
  ·exact J82 _ _ _ h1 (Jvx hr hn hb)
 unfold putP
 cases ha:isAt l p.1 with
 | true=>rw [if_pos rfl]; exact key _ (.inr ⟨ha,rfl⟩)
 | false=>rw [if_neg (by simp)]; exact key _ (.inl ⟨ha,rfl⟩)
theorem Ko (l:List Pr) (p:Pr):(putP l p).length=if isAt l p.1 then l.length else l.length+1:=by
 have hb:=below_le l p.1
 unfold putP
 cases ha:isAt l p.1 with
 | true=>
  have:=(Je8 ha).1
  rw [if_pos rfl,if_pos rfl,List.length_append,List.length_cons,List.length_take,List.length_drop]; omega
 | false=>rw [if_neg (by simp),if_neg (by simp),List.length_append,List.length_cons,List.length_take,List.length_drop]; omega
theorem Jy3 {l:List Pr} (hr:J7v l) (p:Pr):J7v (setP l p).1:=by
 unfold setP
 split
 ·exact Jxo hr p
 ·exact hr
theorem K0c {l:List Pr} (hl:l.length≤30) (p:Pr):(setP l p).1.length≤30:=by
 unfold setP
 split
 ·rename_i h
  rw [Bool.and_eq_true,Bool.or_eq_true,decide_eq_true_eq] at h
  show (putP l p).length≤30
  rw [Ko]
  split
  ·exact hl
  ·rename_i h2
   have:=h.2.resolve_left h2
   omega
 ·exact hl
theorem Kq {l:List Pr} {p q:Pr} (h:q ∈ putP l p):q=p∨q ∈ l:=by
 unfold putP at h
 split at h
 ·rcases List.mem_append.1 h with h | h
  ·exact .inr (List.mem_of_mem_take h)
  ·rcases List.mem_cons.1 h with h | h
   ·exact .inl h
   ·exact .inr (List.mem_of_mem_drop h)
 ·rcases List.mem_append.1 h with h | h
  ·exact .inr (List.mem_of_mem_take h)
  ·rcases List.mem_cons.1 h with h | h
   ·exact .inl h
   ·exact .inr (List.mem_of_mem_drop h)
def RowB (l:List Pr):Prop:=J7v l∧l.length≤30∧∀ p ∈ l,p.1.length≤16∧p.2.1.length≤24
theorem Jas:RowB []:=⟨List.Pairwise.nil,by simp,by simp⟩
theorem K0d {l:List Pr} (h:RowB l) (p:Pr):RowB (setP l p).1:=by
 refine ⟨Jy3 h.1 p,K0c h.2.1 p,fun q hq=>?_⟩
 unfold setP at hq
 split at hq
 ·rename_i c
  rw [Bool.and_eq_true] at c
  have hm:=c.1
  unfold mayP at hm
  simp only [Bool.and_eq_true,decide_eq_true_eq] at hm
  rcases Kq hq with rfl | hq
  ·omega
  ·exact h.2.2 q hq
 ·exact h.2.2 q hq
def StOk (s:Stt):Prop:=RowB s.1∧0≤s.2.1∧s.2.1≤16∧(s.2.2.1.length:Int)=min s.2.1 6∧∀ l ∈ s.2.2.1,RowB l
theorem Jyh:StOk ([],0,[],()):=⟨Jas,by decide,by decide,by decide,by simp⟩
theorem Jfp (s:Stt) (h:StOk s) (p:Pr):Jz p s=some ((setP s.1 p).2,((setP s.1 p).1,s.2.1,s.2.2.1,())):=by
 have:=h.1.2.1
 unfold Jz
 rw [Jqa _ h.1.1 (by omega),J6c]
theorem st_set {s:Stt} (h:StOk s) (p:Pr):StOk ((setP s.1 p).1,s.2.1,s.2.2.1,()):=⟨K0d h.1 p,h.2⟩
def Jo5 (k:List (List Pr)) (l:List Pr):List (List Pr):=if 6 < k.length+1 then (k++[l]).drop 1 else k++[l]
def Jg0 (s:Stt):Int×Stt:=if s.2.1=16 then (0,s) else (s.2.1+1,(s.1,s.2.1+1,Jo5 s.2.2.1 s.1,()))
theorem Jau (s:Stt) (h:s.1.length≤2147483648):J13 s=some s.1:=by
 unfold J13 Jk
 rw [J6d h,J6c]
theorem Jji (s:Stt) (h:StOk s):J16 s=some (Jg0 s):=by
 obtain ⟨⟨h1,h2,_⟩,h3,h4,h5,h6⟩:=h
 unfold J16 Jg0 Jo5
 by_cases c:s.2.1=16
 ·rw [J6g c,if_pos c]
 ·have e:J2w s.2.2.1=some s.2.2.1:=by unfold J2w; rw [J6d (by omega)]
  rw [J6e c,if_neg c,e,J6c,J6h (by omega) (by omega),Jau _ (by show s.1.length≤_; omega),J6c,J6d (by simp only [List.length_cons,List.length_nil]; omega)]
  have hl:(s.2.2.1++[s.1]).length=s.2.2.1.length+1:=by rw [List.length_append]; rfl
  show fork (decide ((6:Int) < ((s.2.2.1++[s.1]).length:Int))) (need (0≤(1:Int)∧(1:Int)≤((s.2.2.1++[s.1]).length:Int)∧((s.2.2.1++[s.1]).length:Int)≤((s.2.2.1++[s.1]).length:Int)) (some (s.2.1+1,(s.1,s.2.1+1,cutL (s.2.2.1++[s.1]) 1 ((s.2.2.1++[s.1]).length:Int),())))) (some (s.2.1+1,(s.1,s.2.1+1,s.2.2.1++[s.1],())))=_
  rw [hl]
  by_cases q:6 < s.2.2.1.length+1
  ·rw [J6g (by omega),J6d (by omega),if_pos q,← hl,J8z]; rfl
  ·rw [J6e (by omega),if_neg q]
theorem Jwq (k:List (List Pr)) (l:List Pr) (h:k.length≤6):(Jo5 k l).length=min (k.length+1) 6:=by
 unfold Jo5
 split
 ·rw [List.length_drop,List.length_append,List.length_cons,List.length_nil]; omega
 ·rw [List.length_append,List.length_cons,List.length_nil]; omega
theorem Jwr {k:List (List Pr)} {l x:List Pr} (h:x ∈ Jo5 k l):x ∈ k∨x=l:=by
 unfold Jo5 at h
 have:x ∈ k++[l]:=by
  split at h
  ·exact List.mem_of_mem_drop h
  ·exact h
 rcases List.mem_append.1 this with h | h
 ·exact .inl h
 ·exact .inr (List.mem_singleton.1 h)
theorem Jp8 {s:Stt} (h:StOk s):StOk (Jg0 s).2:=by
 obtain ⟨h1,h3,h4,h5,h6⟩:=h
 unfold Jg0
 by_cases c:s.2.1=16
 ·rw [if_pos c]; exact ⟨h1,h3,h4,h5,h6⟩
 ·rw [if_neg c]
  refine ⟨h1,by show 0≤s.2.1+1; omega,by show s.2.1+1≤16; omega,?_,fun l hl=>?_⟩
  ·show ((Jo5 s.2.2.1 s.1).length:Int)=min (s.2.1+1) 6
   rw [Jwq _ _ (by omega)]; omega
  ·rcases Jwr hl with hl | rfl
   ·exact h6 l hl
   ·exact h1
def lowS (s:Stt):Int:=s.2.1 - (s.2.2.1.length:Int)+1
def atS (s:Stt) (n:Int):List Pr×Bool:=if n < lowS s∨s.2.1 < n then ([],false) else (s.2.2.1.getD (n - lowS s).toNat [],true)
theorem low_eq (s:Stt) (h:StOk s):J1u s=some (lowS s):=by
 obtain ⟨h1,h3,h4,h5,h6⟩:=h
 unfold J1u lowS
 rw [J6h (n:=s.2.1 - _) (by omega) (by omega),J6h (by omega) (by omega)]
theorem Jwc {k:List (List Pr)} (h:∀ l ∈ k,RowB l) (i:Nat):RowB (k.getD i []):=by
 by_cases c:i < k.length
 ·exact h _ (J7e c)
 ·rw [List.getD_eq_getElem?_getD,List.getElem?_eq_none (by omega)]
  exact Jas
theorem K46 (s:Stt) (h:StOk s) (n:Int):J3p n s=some (atS s n):=by
 have hlow:=low_eq s h
 obtain ⟨h1,h3,h4,h5,h6⟩:=h
 have hl:lowS s=s.2.1 - (s.2.2.1.length:Int)+1:=rfl
 unfold J3p atS
 rw [hlow,J6c]
 by_cases c1:n < lowS s
 ·rw [J6g c1,if_pos (.inl c1)]
 ·rw [J6e c1]
  by_cases c2:s.2.1 < n
  ·rw [J6g c2,if_pos (.inr c2)]
  ·have:=(Jwc h6 (n - lowS s).toNat).2.1
   rw [J6e c2,if_neg (by omega),J6c,J6h (by omega) (by omega),J6d (by omega)]
   unfold Jk
   rw [J6d (by omega),J6c]
theorem Jd8 (a lo hi:Int) (h:lo≤hi) (h1:-1099511627776≤lo) (h2:hi≤1099511627776):∃ r,J0i a lo hi=some r∧lo≤r∧r≤hi:=by
 unfold J0i
 have hn:w64 (w64 (hi - lo)+1)=hi - lo+1:=by simp (disch:=omega) only [J6h]
 rw [hn,J6d (by omega)]
 have hb:Int.tmod a (hi - lo+1) < hi - lo+1∧-(hi - lo+1) < Int.tmod a (hi - lo+1):=by
  constructor
  ·exact Int.tmod_lt_of_pos a (by omega)
  ·have:=Int.tmod_lt_of_pos (-a) (b:=hi - lo+1) (by omega)
   rw [Int.neg_tmod] at this; omega
 generalize Int.tmod a (hi - lo+1)=t at hb
 by_cases ht:t < 0
 ·rw [J6g ht]
  simp (disch:=omega) only [J6h]
  exact ⟨_,rfl,by omega,by omega⟩
 ·rw [J6e ht]
  simp (disch:=omega) only [J6h]
  exact ⟨_,rfl,by omega,by omega⟩
def nm (i:Nat):List UInt8:=([[118,97],[118,98],[118,99],[118,100]]:List (List UInt8)).getD i []
def ky (i:Nat):List UInt8:=List.set (List.replicate 32 (0:UInt8)) 0 (UInt8.ofNat (Int.toNat (((i:Int)+1) % 256)))
def wv (a:Int):Int:=(J0i a 1 9).getD 1
theorem wv_eq (a:Int):J0i a 1 9=some (wv a)∧1≤wv a∧wv a≤9:=by
 obtain ⟨r,h,h1,h2⟩:=Jd8 a 1 9 (by omega) (by omega) (by omega)
 unfold wv; rw [h]; exact ⟨rfl,h1,h2⟩
def pw (ps:List Int) (i:Nat):Int:=if i < ps.length then wv (ps.getD i 0) else 1
theorem pw_b (ps:List Int) (i:Nat):1≤pw ps i∧pw ps i≤9:=by
 unfold pw; split
 ·exact (wv_eq _).2
 ·omega
def setN (ps:List Int):Nat:=max 1 (min 4 ps.length)
def Jqg (p:Nat→Int) (i:Nat):Val:=(nm i,p i,ky i,())
def setS (ps:List Int):List Val:=(List.range (setN ps)).map (Jqg (pw ps))
def Jgg (ps:List Int) (i:Nat) (l:List Val):List Val:=if i=0∨i < ps.length then l++[Jqg (pw ps) i] else l
theorem K3z (ps:List Int):J77 (Jgg ps) 0 4 []=setS ps:=by
 unfold setS setN
 simp only [J77,Jgg]
 by_cases h3:3 < ps.length
 ·rw [show max 1 (min 4 ps.length)=4 from by omega]; simp [h3,show 1 < ps.length from by omega,show 2 < ps.length from by omega,List.range_succ]
 ·by_cases h2:2 < ps.length
  ·rw [show max 1 (min 4 ps.length)=3 from by omega]; simp [h3,h2,show 1 < ps.length from by omega,List.range_succ]
  ·by_cases h1:1 < ps.length
   ·rw [show max 1 (min 4 ps.length)=2 from by omega]; simp [h3,h2,h1,List.range_succ]
   ·rw [show max 1 (min 4 ps.length)=1 from by omega]; simp [h3,h2,h1,List.range_succ]
theorem set_eq (ps:List Int) (hp:ps.length≤140737488351232):J0d ps=some (setS ps):=by
 unfold J0d J4k
 rw [J6c]
 have main:J0d_1 ps 4 0 [] [[118,97],[118,98],[118,99],[118,100]]=some (J77 (Jgg ps) 0 4 []):=by
  unfold J0d_1
  refine J6o (step:=fun (s:Int×List Val)=>J0d_1_step ps 4 s.1 s.2 [[118,97],[118,98],[118,99],[118,100]]) (fun i l=>((i:Int),l)) (Jgg ps) (fun l=>l) 4 (fun i l=>l.length≤i) (fun i l hi hl=>⟨?_,?_⟩) (fun l hl=>?_) 4 0 [] (by omega) (by simp)
  ·show J0d_1_step ps 4 (i:Int) l [[118,97],[118,98],[118,99],[118,100]]=_
   unfold J0d_1_step
   have hlen:List.length [([118,97]:List UInt8),[118,98],[118,99],[118,100]]=4:=rfl
   have hw:=(wv_eq (ps.getD i 0)).1
   have ho:∀ x:Val,List.length [x]=1:=fun _=>rfl
   simp (disch:=omega) only [hlen,J6g,J6d,Int.toNat_natCast,J6h,hw,J6c,ho]
   unfold Jgg Jqg pw
   by_cases h0:i=0
   ·rw [J6g (by omega),if_pos (Or.inl h0)]
    by_cases hc:i < ps.length
    ·rw [J6g (by omega),J6d (by omega),if_pos hc]; rfl
    ·rw [J6e (by omega),if_neg hc]; rfl
   ·rw [J6e (by omega)]
    by_cases hc:i < ps.length
    ·rw [J6g (by omega),J6d (by omega),if_pos (Or.inr hc),if_pos hc]; rfl
    ·rw [J6e (by omega),if_neg (by omega)]; rfl
  ·unfold Jgg
   split
   ·simp; omega
   ·omega
  ·show J0d_1_step ps 4 4 l _=_
   unfold J0d_1_step
   rfl
 show andThen (J0d_1 ps 4 0 [] [[118,97],[118,98],[118,99],[118,100]]) _=_
 rw [main,J6c,K3z]
def K19:List (List UInt8):=[[97],[97,98],[97,98,99],[98],[98,97],[115,47,97],[115,47,98],[115,47,99],[116],[117],[122],[122,122]]
def Jz1 (l:List Pr):Prop:=J7v l∧l.length≤12∧(∀ p ∈ l,p.1 ∈ K19)∧∀ p ∈ l,p.2.1.length≤8
theorem K1a:∀ k ∈ K19,1≤k.length∧k.length≤3:=by decide
theorem row_kv {l:List Pr} (h:Jz1 l):KvOk l:=⟨by have:=h.2.1; omega,fun p hp=>⟨by have:=K1a _ (h.2.2.1 p hp); omega,by have:=h.2.2.2 p hp; omega⟩⟩
theorem Jik:∀ {a b:List Pr},J7v a→J7v b→(∀ q,q ∈ a↔q ∈ b)→a=b
 | [],[],_,_,_=>rfl
 | [],y::b,_,_,h=>by cases (h y).2 List.mem_cons_self
 | x::a,[],_,_,h=>by cases (h x).1 List.mem_cons_self
 | x::a,y::b,ha,hb,h=>by
  obtain ⟨a1,a2⟩:=List.pairwise_cons.1 ha
  obtain ⟨b1,b2⟩:=List.pairwise_cons.1 hb
  have e:x=y:=by
   rcases List.mem_cons.1 ((h x).1 List.mem_cons_self) with e | e
   ·exact e
   ·rcases List.mem_cons.1 ((h y).2 List.mem_cons_self) with e2 | e2
    ·exact e2.symm
    ·have:=J82 _ _ _ (b1 x e) (a1 y e2)
     rw [Jae] at this; cases this
  subst e
  congr 1
  refine Jik a2 b2 fun q=>⟨fun hq=>?_,fun hq=>?_⟩
  ·rcases List.mem_cons.1 ((h q).1 (List.mem_cons_of_mem _ hq)) with e | e
   ·have:=a1 q hq
    rw [e,Jae] at this; cases this
   ·exact e
  ·rcases List.mem_cons.1 ((h q).2 (List.mem_cons_of_mem _ hq)) with e | e
   ·have:=b1 q hq
    rw [e,Jae] at this; cases this
   ·exact e
theorem K3o {l:List Pr} (h:RowB l):KvOk l:=⟨by have:=h.2.1; omega,fun p hp=>by have:=h.2.2 p hp; omega⟩
def Jnh (n:Nat) (r:List UInt8):List UInt8:=sha (83::(oneS (n:Int)++r))
noncomputable def J9m (l:List Pr):List UInt8:=Jnh l.length (J8p (J6z l))
theorem Jyf (x0:List Pr) (x1:List Pr) (x2:Int) (x3:Int) (x4:List UInt8) (x5:List (List UInt8)):J0t_1_step x0 x1 x2 x3 x4 x5 =
  (fork (decide (x3 < x2)) (need (0≤x3∧x3 < (List.length x1:Int)) (andThen (J4t (List.getD x1 (Int.toNat x3) zPr)) (fun u4=>need (List.length x5+List.length ([u4]:List (List UInt8))≤2147483648) (some (.inl ((w64 (x3+(1:Int))),(x5++([u4]:List (List UInt8))))))))) (some (.inr (x0,x4,x5))):Option ((Int×List (List UInt8))⊕((List Pr)×List UInt8×List (List UInt8)))):=rfl
theorem Jjj (l:List Pr) (h:KvOk l):J0t l=some (J9m l):=by
 have hl:=h.1
 have m1:J0t_1 l l (l.length:Int) 0 (List.replicate 32 0) []=some (l,List.replicate 32 0,J6z l):=by
  unfold J0t_1
  have:=J6o (step:=fun (s:Int×List (List UInt8))=>J0t_1_step l l (l.length:Int) s.1 (List.replicate 32 0) s.2) (fun i (_:Unit)=>((i:Int),J6z (l.take i))) (fun _ _=>()) (fun _=>(l,List.replicate 32 0,J6z l)) l.length (fun _ _=>True) (fun i w hi _=>⟨?_,trivial⟩) (fun w _=>?_) l.length 0 () (by omega) trivial
  ·exact this
  ·show J0t_1_step l l (l.length:Int) (i:Int) (List.replicate 32 0) (J6z (l.take i))=_
   rw [Jyf,J6g (by omega),J6d (by omega),Int.toNat_natCast,Jqd _ (h.2 _ (J7e hi)),J6c,J6d (by rw [J7h,List.length_take]; simp only [List.length_cons,List.length_nil]; omega),Jgr l hi,J6h (by omega) (by omega)]
   rfl
  ·show J0t_1_step l l (l.length:Int) (l.length:Int) (List.replicate 32 0) (J6z (l.take l.length))=_
   rw [Jyf,J6e (by omega),List.take_of_length_le (Nat.le_refl _)]
 have hp:putS [(l.length:Int)]=oneS l.length:=by simp [putS]
 have h1:=J7t (l.length:Int)
 have h2:=J80 (J6z l)
 have hf:[oneS (l.length:Int),J8p (J6z l)].flatten=oneS (l.length:Int)++J8p (J6z l):=by simp
 unfold J0t
 rw [m1,J6c]
 dsimp only
 rw [Jmq _ (by rw [J7h]; omega) (Jf4 h),J6c,put_eq _ (by simp),J6c,hp,J7w _ _ (by rw [hf,List.length_append]; omega) (by simp),hf]
 rfl
theorem Juc (a b:List Pr) (hl:a.length=b.length) {ρ:Type} (r r0:ρ) (hr:r≠r0):scan (fun i=>if a.getD i zPr=b.getD i zPr then none else some r) r0 0 a.length=if a=b then r0 else r:=by
 by_cases e:a=b
 ·subst e
  rw [if_pos rfl]
  exact Jbh _ _ (fun j _ _=>if_pos rfl)
 ·rw [if_neg e]
  have:∃ j,j < a.length∧a.getD j zPr≠b.getD j zPr:=by
   apply Classical.byContradiction
   intro hn
   apply e
   apply List.ext_getElem hl
   intro i h1 h2
   apply Classical.byContradiction
   intro hne
   exact hn ⟨i,h1,by rw [List.getD_eq_getElem?_getD,List.getD_eq_getElem?_getD,List.getElem?_eq_getElem h1,List.getElem?_eq_getElem h2]; exact hne⟩
  obtain ⟨j,hj⟩:=Nat.find_of this
  refine Jad a.length 0 j (Nat.zero_le _) (by omega) (fun j' _ h=>if_pos ?_) (if_neg hj.1.2)
  exact Classical.byContradiction fun hne=>hj.2 j' h ⟨by omega,hne⟩
theorem Jmf (x0:List Pr) (x1:List Pr) (x2:Int) (x3:Int):Jr_1_step x0 x1 x2 x3 =
  (fork (decide (x3 < x2)) (need (0≤x3∧x3 < (List.length x0:Int)) (need (0≤x3∧x3 < (List.length x1:Int)) (fork (!(Ty.beq (.fld .str (.fld .str .unit)) (List.getD x0 (Int.toNat x3) zPr) (List.getD x1 (Int.toNat x3) zPr))) (some (.inr (.inl false))) (some (.inl (w64 (x3+(1:Int)))))))) (some (.inr (.inr ()))):Option ((Int)⊕((Bool)⊕(Unit)))):=rfl
theorem Joq (a b:List Pr) (ha:a.length≤1073741824):Jr a b=some (decide (a=b)):=by
 by_cases hl:a.length=b.length
 ·have h:Jr_1 a b (a.length:Int) 0=some (scan (fun i=>if a.getD i zPr=b.getD i zPr then none else some (.inl false)) (.inr ()) 0 a.length):=by
   unfold Jr_1
   refine J93 (step:=fun (s:Int)=>Jr_1_step a b (a.length:Int) s) (fun i=>(i:Int)) _ _ a.length (fun i hi h=>?_) (fun i r hi h=>?_) ?_ a.length 0 (by omega)
   ·rw [Jmf,J6g (by omega),J6d (by omega),J6d (by omega),Int.toNat_natCast,pbeq,J6h (by omega) (by omega)]
    by_cases e:a.getD i zPr=b.getD i zPr
    ·rw [J90 e]; rfl
    ·rw [if_neg e] at h; cases h
   ·rw [Jmf,J6g (by omega),J6d (by omega),J6d (by omega),Int.toNat_natCast,pbeq]
    by_cases e:a.getD i zPr=b.getD i zPr
    ·rw [if_pos e] at h; cases h
    ·rw [if_neg e] at h; injection h with h; subst h; rw [Jaz e]
   ·rw [Jmf,J6e (by omega)]
  unfold Jr
  rw [J90 (by omega),h,J6c,Juc a b hl _ _ (by simp)]
  by_cases e:a=b
  ·rw [if_pos e,decide_eq_true e]
  ·rw [if_neg e,decide_eq_false e]
 ·unfold Jr
  rw [Jaz (by omega),decide_eq_false (fun e=>hl (by rw [e]))]
abbrev hq (a b:List UInt8):Bool:=Ty.beq (.arr 32 (.int .u8)) a b
theorem K13 (a b:List UInt8):hq a b=true↔a=b:=Ty.beq_iff (.arr 32 (.int .u8)) rfl a b
def okP (l:List Pr) (i:Nat):Bool:=mayP (l.getD i zPr) && (i == 0 || J6v (l.getD (i - 1) zPr).1 (l.getD i zPr).1)
def J9b (l:List Pr):Bool:=(List.range l.length).all (okP l) && decide (l.length≤30)
theorem Jwt (x0:List Pr) (x1:List Pr) (x2:Int) (x3:Int):J1d_1_step x0 x1 x2 x3 =
  (fork (decide (x3 < x2)) (need (0≤x3∧x3 < (List.length x1:Int)) (andThen (J5v (List.getD x1 (Int.toNat x3) zPr)) (fun u4=>fork (!u4) (some (.inr (.inl false))) (fork (decide ((0:Int) < x3)) (need (0≤(w64 (x3 - (1:Int)))∧(w64 (x3 - (1:Int))) < (List.length x0:Int)) (fork (!J6v (List.getD x0 (Int.toNat (w64 (x3 - (1:Int)))) zPr).1 (List.getD x1 (Int.toNat x3) zPr).1) (some (.inr (.inl false))) (some (.inl (w64 (x3+(1:Int))))))) (some (.inl (w64 (x3+(1:Int))))))))) (some (.inr (.inr x0))):Option ((Int)⊕((Bool)⊕(List Pr)))):=rfl
theorem Jcq (l:List Pr) (hl:l.length≤1073741824):J1d l=some (J9b l):=by
 have main:J1d_1 l l (l.length:Int) 0=some (scan (fun i=>if okP l i then none else some (.inl false)) (.inr l) 0 l.length):=by
  unfold J1d_1
  have step:∀ i,i < l.length→J1d_1_step l l (l.length:Int) (i:Int)=if okP l i then some (.inl ((i+1:Nat):Int)) else some (.inr (.inl false)):=by
   intro i hi
   rw [Jwt]
   simp (disch:=omega) only [J6g,J6h,J6d,Int.toNat_natCast,Jx0,J6c]
   unfold okP
   by_cases hm:mayP (l.getD i zPr)
   ·rw [hm]
    rw [show (!true)=false from rfl,J6j,Bool.true_and]
    by_cases h0:i=0
    ·subst h0; rw [J6e (by omega)]; rfl
    ·rw [J6g (by omega),J6d (by omega),show Int.toNat ((i:Int) - 1)=i - 1 from by omega]
     have:(i == 0)=false:=by simp [h0]
     rw [this,Bool.false_or]
     by_cases hs:J6v (l.getD (i - 1) zPr).1 (l.getD i zPr).1
     ·rw [hs]; rfl
     ·rw [Bool.not_eq_true] at hs; rw [hs]; rfl
   ·rw [Bool.not_eq_true] at hm; rw [hm]; rfl
  refine J93 (step:=fun (s:Int)=>J1d_1_step l l (l.length:Int) s) (fun i=>(i:Int)) _ _ l.length (fun i hi h=>?_) (fun i r hi h=>?_) ?_ l.length 0 (by omega)
  ·by_cases hk:okP l i
   ·exact (step i hi).trans (if_pos hk)
   ·rw [if_neg hk] at h; cases h
  ·by_cases hk:okP l i
   ·rw [if_pos hk] at h; cases h
   ·rw [if_neg hk] at h; injection h with h; subst h
    exact (step i hi).trans (if_neg hk)
  ·rw [Jwt,J6e (by omega)]
 unfold J1d
 rw [main,J6c]
 unfold J9b
 by_cases hall:(List.range l.length).all (okP l)
 ·rw [Jbh _ _ (fun j _ h=>if_pos (List.all_eq_true.1 hall j (by simp; omega))),hall,Bool.true_and]
  dsimp only
  congr 1
  exact decide_eq_decide.2 (by omega)
 ·rw [Bool.not_eq_true] at hall
  have:∃ j,j < l.length∧okP l j=false:=by
   rw [List.all_eq_false] at hall
   obtain ⟨j,hj,hk⟩:=hall
   exact ⟨j,by simpa using hj,by simpa using hk⟩
  obtain ⟨j,hj⟩:=Nat.find_of this
  have hsc:scan (fun i=>if okP l i then none else some (.inl false)) (.inr l:Bool⊕List Pr) 0 l.length=.inl false:=by
   refine Jad l.length 0 j (Nat.zero_le _) (by omega) (fun j' _ h=>if_pos ?_) (if_neg ?_)
   ·have:=hj.2 j' h
    cases hk:okP l j' with
    | true=>rfl
    | false=>exact absurd ⟨by omega,hk⟩ this
   ·rw [hj.1.2]; simp
  rw [hall,hsc]
  rfl
theorem Ja1 (l:List Pr):J9b l=true↔J7v l∧(∀ p ∈ l,mayP p=true)∧l.length≤30:=by
 have e:∀ j,(l.map (·.1)).getD j []=(l.getD j zPr).1:=fun j=>by
  rw [List.getD_eq_getElem?_getD,List.getD_eq_getElem?_getD,List.getElem?_map]
  cases l[j]? <;> rfl
 unfold J9b
 rw [Bool.and_eq_true,decide_eq_true_eq]
 constructor
 ·rintro ⟨h1,h2⟩
  have key0:∀ i,i < l.length→okP l i=true:=fun i hi=>List.all_eq_true.1 h1 i (List.mem_range.2 hi)
  have hinc:incN (l.map fun p:Pr=>p.1)=true:=by
   refine List.all_eq_true.2 fun i hi=>?_
   have hi:=List.mem_range.1 hi
   rw [List.length_map] at hi
   have:=key0 (i+1) (by omega)
   unfold okP at this
   simp only [Bool.and_eq_true,Bool.or_eq_true,beq_iff_eq] at this
   have t:=this.2.resolve_left (by omega)
   rw [Nat.add_sub_cancel] at t
   rw [e,e]; exact t
  refine ⟨List.pairwise_map.1 (Jo3 _ hinc),fun p hp=>?_,h2⟩
  ·obtain ⟨i,hi,rfl⟩:=List.getElem_of_mem hp
   have:=key0 i hi
   unfold okP at this
   rw [Bool.and_eq_true,List.getD_eq_getElem?_getD,List.getElem?_eq_getElem hi] at this
   exact this.1
 ·rintro ⟨h1,h2,h3⟩
  refine ⟨List.all_eq_true.2 fun i hi=>?_,h3⟩
  have hi:=List.mem_range.1 hi
  unfold okP
  rw [Bool.and_eq_true,Bool.or_eq_true,beq_iff_eq]
  refine ⟨h2 _ (J7e hi),?_⟩
  by_cases c:i=0
  ·exact .inl c
  ·exact .inr (Jf2 h1 (by omega) hi)
theorem mayP_b {p:Pr} (h:mayP p=true):1≤p.1.length∧p.1.length≤16∧p.2.1.length≤24:=by
 unfold mayP at h
 simp only [Bool.and_eq_true,Bool.not_eq_true',decide_eq_true_eq,decide_eq_false_iff_not,← List.length_eq_zero_iff] at h
 omega
theorem Jcz {l:List Pr} (h:J9b l=true):KvOk l∧J7v l:=by
 obtain ⟨h1,h2,h3⟩:=(Ja1 l).1 h
 exact ⟨⟨by omega,fun p hp=>by have:=mayP_b (h2 p hp); omega⟩,h1⟩
noncomputable def Jhf (p:Prf) (i:Nat):List UInt8×Bool:=upS (Jeb (p.2.2.1.getD i zPr)) (p.2.1+(i:Int)) p.1 (p.2.2.2.1.getD i [])
noncomputable def Jb2 (root:List UInt8) (p:Prf) (i:Nat):Bool:=(Jhf p i).2 && hq (Jnh p.1.toNat (Jhf p i).1) root
noncomputable def J9r (root:List UInt8) (p:Prf):Bool:=
 decide (0≤p.1∧p.1≤30∧p.2.2.2.1.length=p.2.2.1.length) && (J9b p.2.2.1 && (decide (0≤p.2.1∧p.2.1≤p.1 - (p.2.2.1.length:Int)) && (if p.1=0 then hq root (J9m []) else (decide (0 < p.2.2.1.length) && (List.range p.2.2.1.length).all (Jb2 root p)))))
def Jl2 (p:Prf):Prop:=(∀ x ∈ p.2.2.2.1,x.length≤1000∧∀ h ∈ x,h.length=32)∧p.2.2.1.length≤1000000∧p.2.2.2.1.length≤1000000
theorem upS_32 (leaf:List UInt8) (i n:Int) (p:List (List UInt8)):(upS leaf i n p).1.length=32:=by
 unfold upS
 split
 ·exact Jlb _ _ _ (J81 _)
 ·simp
theorem Jvr (n:Nat) (r:List UInt8) (hr:r.length=32):J4q (n:Int) r=some (Jnh n r):=by
 have hp:putS [(n:Int)]=oneS n:=by simp [putS]
 have h1:=J7t (n:Int)
 have hf:[oneS (n:Int),r].flatten=oneS (n:Int)++r:=by simp
 unfold J4q
 rw [put_eq _ (by simp),J6c,hp,J7w _ _ (by rw [hf,List.length_append]; omega) (by simp),hf]
 rfl
theorem Jvo (x0:List Pr) (x1:Int) (x2:Int) (x3:List UInt8) (x4:Prf):J10_1_step x0 x1 x2 x3 x4 =
  (fork (decide (x2 < x1)) (need (0≤x2∧x2 < (List.length x0:Int)) (andThen (J4t (List.getD x0 (Int.toNat x2) zPr)) (fun u16=>need (0≤x2∧x2 < (List.length x4.2.2.2.1:Int)) (andThen (J2j u16 (w64 (x4.2.1+x2)) x4.1 (List.getD x4.2.2.2.1 (Int.toNat x2) ([]:List (List UInt8)))) (fun u19=>fork (!u19.2) (some (.inr (.inl ()))) (andThen (J4q x4.1 u19.1) (fun u22=>fork (!(Ty.beq (.arr 32 (.int .u8)) u22 x3)) (some (.inr (.inl ()))) (some (.inl (w64 (x2+(1:Int)))))))))))) (some (.inr (.inr ()))):Option ((Int)⊕((Unit)⊕(Unit)))):=rfl
theorem K0a {ρ:Type} (f:Nat→Bool) (r r0:ρ) (n:Nat):scan (fun i=>if f i then none else some r) r0 0 n=if (List.range n).all f then r0 else r:=by
 by_cases h:(List.range n).all f=true
 ·rw [if_pos h]
  exact Jbh _ _ fun j _ hj=>if_pos (List.all_eq_true.1 h j (List.mem_range.2 (by omega)))
 ·rw [if_neg h]
  rw [Bool.not_eq_true,List.all_eq_false] at h
  obtain ⟨j,hj,hf⟩:=h
  obtain ⟨k,hk⟩:=Nat.find_of (p:=fun j=>j < n∧¬ f j=true) ⟨j,List.mem_range.1 hj,hf⟩
  refine Jad n 0 k (Nat.zero_le _) (by omega) (fun j' _ h=>if_pos ?_) (if_neg hk.1.2)
  exact Classical.byContradiction fun q=>hk.2 j' h ⟨by omega,q⟩
theorem K33 {p:Prf} (h:Jl2 p) (i:Nat):(∀ x ∈ p.2.2.2.1.getD i [],x.length=32)∧(p.2.2.2.1.getD i []).length≤100000:=by
 by_cases c:i < p.2.2.2.1.length
 ·have:=h.1 _ (J7e (z:=[]) c)
  exact ⟨this.2,by omega⟩
 ·rw [List.getD_eq_getElem?_getD,List.getElem?_eq_none (by omega)]; simp
theorem Jer (root:List UInt8) (p:Prf) (h:Jl2 p):J10 root p=some (J9r root p):=by
 have hn:=h.2.1
 unfold J10 J9r
 by_cases c1:p.1 < 0
 ·rw [J6g c1,decide_eq_false (fun q=>absurd q.1 (by omega))]; rfl
 rw [J6e c1]
 by_cases c2:30 < p.1
 ·rw [J6g c2,decide_eq_false (fun q=>absurd q.2.1 (by omega))]; rfl
 rw [J6e c2]
 by_cases c3:p.2.2.2.1.length=p.2.2.1.length
 case neg=>rw [Jaz (by omega),decide_eq_false (fun q=>c3 q.2.2)]; rfl
 rw [J90 (by omega),Jcq _ (by omega),J6c,decide_eq_true (p:=0≤p.1∧p.1≤30∧p.2.2.2.1.length=p.2.2.1.length) ⟨by omega,by omega,c3⟩,Bool.true_and]
 cases c4:J9b p.2.2.1 with
 | false=>rfl
 | true=>
  obtain ⟨hk,hr⟩:=Jcz c4
  have hl:=hk.1
  rw [Bool.not_true,J6j,Bool.true_and]
  by_cases c5:p.2.1 < 0
  ·rw [J6g c5,decide_eq_false (fun q=>absurd q.1 (by omega))]; rfl
  rw [J6e c5,J6h (by omega) (by omega)]
  by_cases c6:p.1 - (p.2.2.1.length:Int) < p.2.1
  ·rw [J6g c6,decide_eq_false (fun q=>absurd q.2 (by omega))]; rfl
  rw [J6e c6,decide_eq_true (p:=0≤p.2.1∧p.2.1≤p.1 - (p.2.2.1.length:Int)) ⟨by omega,by omega⟩,Bool.true_and]
  by_cases c7:p.1=0
  ·rw [J6g c7,if_pos c7,Jjj [] ⟨by simp,by simp⟩,J6c]
  rw [J6e c7,if_neg c7]
  by_cases c8:p.2.2.1.length=0
  ·rw [J6g (by omega),decide_eq_false (by omega)]; rfl
  rw [J6e (by omega),decide_eq_true (p:=0 < p.2.2.1.length) (by omega),Bool.true_and]
  have m:J10_1 p.2.2.1 (p.2.2.1.length:Int) 0 root p=some (scan (fun i=>if Jb2 root p i then none else some (.inl ())) (.inr ()) 0 p.2.2.1.length):=by
   unfold J10_1
   have step:∀ i,i < p.2.2.1.length→J10_1_step p.2.2.1 (p.2.2.1.length:Int) (i:Int) root p=if Jb2 root p i then some (.inl ((i+1:Nat):Int)) else some (.inr (.inl ())):=by
    intro i hi
    obtain ⟨po1,po2⟩:=K33 h i
    have hlf:=hk.2 _ (J7e (z:=zPr) hi)
    have hlb:=Jo9 hlf
    have hnum:p.1=((p.1.toNat:Nat):Int):=by omega
    have hw:J4q p.1 (upS (Jeb (p.2.2.1.getD i zPr)) (p.2.1+(i:Int)) p.1 (p.2.2.2.1.getD i [])).1=some (Jnh p.1.toNat (upS (Jeb (p.2.2.1.getD i zPr)) (p.2.1+(i:Int)) p.1 (p.2.2.2.1.getD i [])).1):=by
     have:=Jvr p.1.toNat _ (upS_32 (Jeb (p.2.2.1.getD i zPr)) (p.2.1+(i:Int)) p.1 (p.2.2.2.1.getD i []))
     rw [← hnum] at this; exact this
    rw [Jvo,J6g (by omega),J6d (by omega),Int.toNat_natCast,Jqd _ hlf,J6c,J6d (by omega),J6h (n:=p.2.1+(i:Int)) (by omega) (by omega),up_eq _ (by omega) _ _ (by omega) _ po1 po2,J6c,hw,J6c,J6h (by omega) (by omega)]
    unfold Jb2 Jhf
    cases (upS (Jeb (p.2.2.1.getD i zPr)) (p.2.1+(i:Int)) p.1 (p.2.2.2.1.getD i [])).2 with
    | false=>rfl
    | true=>
     rw [Bool.not_true,J6j,Bool.true_and]
     unfold hq
     cases Ty.beq (.arr 32 (.int .u8)) (Jnh p.1.toNat (upS (Jeb (p.2.2.1.getD i zPr)) (p.2.1+(i:Int)) p.1 (p.2.2.2.1.getD i [])).1) root <;> rfl
   refine J93 (step:=fun (s:Int)=>J10_1_step p.2.2.1 (p.2.2.1.length:Int) s root p) (fun i=>(i:Int)) _ _ p.2.2.1.length (fun i hi h=>?_) (fun i r hi h=>?_) ?_ p.2.2.1.length 0 (by omega)
   ·by_cases hk:Jb2 root p i
    ·exact (step i hi).trans (if_pos hk)
    ·rw [if_neg hk] at h; cases h
   ·by_cases hk:Jb2 root p i
    ·rw [if_pos hk] at h; cases h
    ·rw [if_neg hk] at h; injection h with h; subst h
     exact (step i hi).trans (if_neg hk)
   ·rw [Jvo,J6e (by omega)]
  rw [m,J6c,K0a]
  cases (List.range p.2.2.1.length).all (Jb2 root p) <;> rfl
theorem Jsy {root:List UInt8} {p:Prf} (h:J9r root p=true):KvOk p.2.2.1∧J7v p.2.2.1:=by
 unfold J9r at h
 rw [Bool.and_eq_true,Bool.and_eq_true] at h
 exact Jcz h.2.1
theorem Jyc {root:List UInt8} {p:Prf} (h:J9r root p=true):0≤p.1∧p.1≤30∧0≤p.2.1∧p.2.1≤p.1 - (p.2.2.1.length:Int)∧(p.2.2.1.length=0↔p.1=0):=by
 unfold J9r at h
 simp only [Bool.and_eq_true,decide_eq_true_eq] at h
 obtain ⟨⟨h1,h2,_⟩,_,⟨h3,h4⟩,h5⟩:=h
 refine ⟨h1,h2,h3,h4,fun e=>?_,fun e=>by omega⟩
 apply Classical.byContradiction
 intro c
 rw [if_neg c,Bool.and_eq_true,decide_eq_true_eq] at h5
 omega
def inR (a b:List UInt8) (p:Pr):Bool:=!J6v p.1 a && J6v p.1 b
def J89 (l:List Pr) (a b:List UInt8):List Pr:=l.filter (inR a b)
theorem Kh {l:List Pr} {a b:Nat} {q:Pr}:q ∈ cutL l (a:Int) (b:Int)↔∃ i,a≤i∧i < b∧i < l.length∧l.getD i zPr=q:=by
 unfold cutL
 rw [Int.toNat_natCast,Int.toNat_natCast]
 constructor
 ·intro h
  obtain ⟨i,h1,h2,h3⟩:=Jgt h
  rw [List.length_take] at h2
  rw [List.getD_eq_getElem?_getD,List.getElem?_take,if_pos (by omega),← List.getD_eq_getElem?_getD] at h3
  exact ⟨i,h1,by omega,by omega,h3⟩
 ·rintro ⟨i,h1,h2,h3,rfl⟩
  have e:(l.take b).drop a=(l.drop a).take (b - a):=by rw [List.drop_take]
  have hm:((l.take b).drop a).getD (i - a) zPr=l.getD i zPr:=by
   rw [List.getD_eq_getElem?_getD,List.getD_eq_getElem?_getD,List.getElem?_drop,List.getElem?_take,if_pos (by omega)]
   congr 2; omega
  rw [← hm]
  exact J7e (by rw [List.length_drop,List.length_take]; omega)
theorem Jkg (l:List Pr) (hr:J7v l) (hl:l.length≤1000) (a b:List UInt8):J43 l a b=some (J89 l a b):=by
 have h1:=below_le l a
 have h2:=below_le l b
 have e:cutL l ((J6l l a:Nat):Int) ((max (J6l l a) (J6l l b):Nat):Int)=J89 l a b:=by
  refine Jik ?_ (hr.sublist List.filter_sublist) fun q=>?_
  ·unfold cutL
   exact (hr.sublist (List.take_sublist _ _)).sublist (List.drop_sublist _ _)
  ·rw [Kh]
   unfold J89 inR
   rw [List.mem_filter,Bool.and_eq_true,Bool.not_eq_true']
   constructor
   ·rintro ⟨i,g1,g2,g3,rfl⟩
    refine ⟨J7e g3,?_,(J8g hr b g3).2 (by omega)⟩
    cases c:J6v (l.getD i zPr).1 a with
    | false=>rfl
    | true=>have:=(J8g hr a g3).1 c; omega
   ·rintro ⟨g1,g2,g3⟩
    obtain ⟨i,hi,rfl⟩:=List.getElem_of_mem g1
    have hg:l.getD i zPr=l[i]:=by rw [List.getD_eq_getElem?_getD,List.getElem?_eq_getElem hi]; rfl
    rw [← hg] at g2 g3
    have:=(J8g hr b hi).1 g3
    refine ⟨i,?_,by omega,hi,hg⟩
    apply Classical.byContradiction
    intro c
    rw [(J8g hr a hi).2 (by omega)] at g2; cases g2
 unfold J43
 rw [Jco l hr hl,J6c,Jco l hr hl,J6c,show max (J6l l a:Int) (J6l l b:Int)=((max (J6l l a) (J6l l b):Nat):Int) from by omega,J6d (by omega),e]
 unfold Jk
 have hle:(J89 l a b).length≤l.length:=List.length_filter_le _ _
 rw [J6d (by omega),J6c]
def Jl4 (p:Prf) (a:List UInt8):Bool:=decide (p.2.1=0) || J6v (p.2.2.1.getD 0 zPr).1 a
def Jzj (p:Prf) (m:List UInt8):Bool:=decide (p.2.1+(p.2.2.1.length:Int)=p.1) || !J6v (p.2.2.1.getD (p.2.2.1.length - 1) zPr).1 m
noncomputable def Jab (root a b:List UInt8) (p:Prf):List Pr×Bool:=
 if J9r root p then (if p.2.2.1.length=0 then ([],true) else if Jl4 p a && Jzj p (maxS a b) then (J89 p.2.2.1 a b,true) else ([],false)) else ([],false)
theorem Jeq (root a b:List UInt8) (p:Prf) (h:Jl2 p):J4p root a b p=some (Jab root a b p):=by
 unfold J4p Jab
 rw [Jer root p h,J6c]
 cases hs:J9r root p with
 | false=>rfl
 | true=>
  obtain ⟨hk,hr⟩:=Jsy hs
  have hl:=hk.1
  obtain ⟨n1,n2,n3,n4,n5⟩:=Jyc hs
  rw [Bool.not_true,J6j,if_pos rfl,Jkg _ hr (by omega),J6c]
  by_cases c:p.2.2.1.length=0
  ·rw [J6g (by omega),if_pos c]
  rw [J6e (by omega),if_neg c,J6h (n:=p.2.1+_) (by omega) (by omega),J6h (by omega) (by omega),J6d (by omega),J6d (by omega),show Int.toNat ((p.2.2.1.length:Int) - 1)=p.2.2.1.length - 1 from by omega,show Int.toNat (0:Int)=0 from rfl]
  unfold Jl4 Jzj
  by_cases c1:p.2.1=0
  ·rw [J6g c1,decide_eq_true c1,Bool.true_or,Bool.true_and]
   by_cases c2:p.2.1+(p.2.2.1.length:Int)=p.1
   ·rw [J6g c2,decide_eq_true c2]; rfl
   ·rw [J6e c2,decide_eq_false c2,Bool.false_or]
    show fork (!(!J6v (p.2.2.1.getD (p.2.2.1.length - 1) zPr).1 (maxS a b))) _ _=_
    cases J6v (p.2.2.1.getD (p.2.2.1.length - 1) zPr).1 (maxS a b) <;> rfl
  ·rw [J6e c1,decide_eq_false c1,Bool.false_or]
   by_cases c2:p.2.1+(p.2.2.1.length:Int)=p.1
   ·rw [J6g c2,decide_eq_true c2,Bool.true_or,Bool.and_true]
    show fork (!J6v (p.2.2.1.getD 0 zPr).1 a) _ _=_
    cases J6v (p.2.2.1.getD 0 zPr).1 a <;> rfl
   ·rw [J6e c2,decide_eq_false c2,Bool.false_or,J6d (by omega)]
    show fork (!J6v (p.2.2.1.getD 0 zPr).1 a) _ (fork (!(!J6v (p.2.2.1.getD (p.2.2.1.length - 1) zPr).1 (maxS a b))) _ _)=_
    cases J6v (p.2.2.1.getD 0 zPr).1 a <;> cases J6v (p.2.2.1.getD (p.2.2.1.length - 1) zPr).1 (maxS a b) <;> rfl
theorem Jot {root a b:List UInt8} {p:Prf} (h:(Jab root a b p).2=true):J9r root p=true:=by
 unfold Jab at h
 cases hs:J9r root p with
 | true=>rfl
 | false=>rw [hs,if_neg (by simp)] at h; cases h
noncomputable def absS (root k:List UInt8) (p:Prf):Bool:=(Jab root k k p).2 && !isAt p.2.2.1 k
theorem Jjt (root k:List UInt8) (p:Prf) (h:Jl2 p):J56 root k p=some (absS root k p):=by
 unfold J56 absS
 rw [Jeq root k k p h,J6c]
 cases hs:(Jab root k k p).2 with
 | false=>rfl
 | true=>
  obtain ⟨hk,hr⟩:=Jsy (Jot hs)
  have hl:=hk.1
  rw [Bool.not_true,J6j,Jcp _ hr (by omega),J6c,Bool.true_and]
  cases isAt p.2.2.1 k <;> rfl
noncomputable def Jk8 (root:List UInt8) (x:Pr) (p:Prf):Bool:=J9r root p && decide (p.2.2.1=[x])
theorem Jla (root:List UInt8) (x:Pr) (p:Prf) (h:Jl2 p):J50 root x p=some (Jk8 root x p):=by
 have:=h.2.1
 unfold J50 Jk8
 rw [Jer root p h,J6c]
 cases J9r root p with
 | false=>rfl
 | true=>rw [J7g,Joq _ _ (by omega),J6c,Bool.true_and]
theorem Jsx (l:List Pr) (h:KvOk l) (F T:Nat) (hT:T≤1000):Jl2 (J88 l F T):=by
 have hl:=h.1
 unfold J88
 by_cases c:T≤F
 ·rw [if_pos c]; exact ⟨by simp,by simp,by simp⟩
 ·rw [if_neg c]
  obtain ⟨a,b⟩:=Js8 l hl F (T - F)
  refine ⟨fun x hx=>⟨by have:=b x hx; omega,?_⟩,by show ((l.drop F).take (T - F)).length≤_; rw [List.length_take,List.length_drop]; omega,by show (J9a l F (T - F)).length≤_; omega⟩
  obtain ⟨j,_,rfl⟩:=List.mem_map.1 hx
  unfold Jbe
  split
  ·exact Jhe _ _ _
  ·simp
theorem K4a (l:List Pr) (hl:l.length≤60) (i:Nat) (hi:i < l.length):upS (Jeb (l.getD i zPr)) (i:Int) (l.length:Int) (Jbe (J6z l) (i:Int))=(J8p (J6z l),true):=by
 have hg:(J6z l).getD i []=Jeb (l.getD i zPr):=by
  unfold J6z
  rw [List.getD_eq_getElem?_getD,List.getD_eq_getElem?_getD,List.getElem?_map,List.getElem?_eq_getElem hi]; rfl
 have hp:=Jme l.length (J6z l) i (by rw [J7h]; omega) (by rw [J7h]; omega) (by rw [J7h]; omega)
 have hs:=Ja0 l.length (J6z l) i (by rw [J7h]; omega)
 rw [J7h,hg] at hp
 rw [J7h] at hs
 have e:Jbe (J6z l) (i:Int)=J86 l.length (J6z l) i:=by
  unfold Jbe
  rw [J7h,if_pos (by omega),Int.toNat_natCast]
 unfold upS
 rw [e,if_pos ⟨(Jm5 _ _).2 (by omega),by rw [Int.toNat_natCast,Int.toNat_natCast]; exact hs⟩,Int.toNat_natCast,Int.toNat_natCast,hp]
theorem Jxz {l:List Pr} (h:Jz1 l):J9b l=true:=by
 rw [Ja1]
 refine ⟨h.1,fun p hp=>?_,by have:=h.2.1; omega⟩
 have:=K1a _ (h.2.2.1 p hp)
 have h3:=h.2.2.2 p hp
 unfold mayP
 have hne:p.1≠[]:=fun e=>by rw [e] at this; simp at this
 simp only [Bool.and_eq_true,Bool.not_eq_true',decide_eq_true_eq,decide_eq_false_iff_not]
 exact ⟨hne,by omega,by omega⟩
theorem Jjc {l m:List Pr} (h:J9b l=true) (hs:m.Sublist l):J9b m=true:=by
 obtain ⟨h1,h2,h3⟩:=(Ja1 l).1 h
 exact (Ja1 m).2 ⟨h1.sublist hs,fun p hp=>h2 p (hs.subset hp),Nat.le_trans hs.length_le h3⟩
theorem Jaf (l:List Pr) {F T:Nat} (h:F < T):J88 l F T=((l.length:Int),(F:Int),(l.drop F).take (T - F),J9a l F (T - F),()):=by unfold J88; rw [if_neg (by omega)]
theorem Jul (root:List UInt8) (l:List Pr) (h:J9b l=true) (F T:Nat) (hT:T≤l.length):J9r root (J88 l F T)=if l.length=0 then hq root (J9m []) else decide (F < T) && hq (J9m l) root:=by
 obtain ⟨hk,hr⟩:=Jcz h
 have h30:=((Ja1 l).1 h).2.2
 by_cases c:F < T
 ·have e1:((l.drop F).take (T - F)).length=T - F:=by rw [List.length_take,List.length_drop]; omega
  obtain ⟨e2,e3⟩:=Js8 l hk.1 F (T - F)
  have hat:∀ i,i < T - F→Jb2 root (J88 l F T) i=hq (J9m l) root:=fun i hi=>by
   have g1:((l.drop F).take (T - F)).getD i zPr=l.getD (F+i) zPr:=by
    rw [List.getD_eq_getElem?_getD,List.getD_eq_getElem?_getD,List.getElem?_take,if_pos hi,List.getElem?_drop]
   have g2:(J9a l F (T - F)).getD i []=Jbe (J6z l) ((F+i:Nat):Int):=by
    unfold J9a
    rw [List.getD_eq_getElem?_getD,List.getElem?_map,List.getElem?_range hi]; rfl
   have hu:=K4a l hk.1 (F+i) (by omega)
   unfold Jb2 Jhf
   rw [Jaf l c]
   dsimp only
   rw [g1,g2,show (F:Int)+(i:Int)=((F+i:Nat):Int) from by omega,hu,Int.toNat_natCast]
   rfl
  rw [if_neg (by omega),decide_eq_true c,Bool.true_and]
  have hall:(List.range (T - F)).all (Jb2 root (J88 l F T))=hq (J9m l) root:=by
   cases hv:hq (J9m l) root with
   | true=>exact List.all_eq_true.2 fun i hi=>by rw [hat i (List.mem_range.1 hi),hv]
   | false=>exact List.all_eq_false.2 ⟨0,List.mem_range.2 (by omega),by rw [hat 0 (by omega),hv]; simp⟩
  unfold J9r
  rw [Jaf l c] at hall ⊢
  dsimp only at hall ⊢
  rw [e1,e2,hall,Jjc h ((List.take_sublist _ _).trans (List.drop_sublist _ _)),decide_eq_true (p:=0≤(l.length:Int)∧(l.length:Int)≤30∧T - F=T - F) ⟨by omega,by omega,rfl⟩,decide_eq_true (p:=0≤(F:Int)∧(F:Int)≤(l.length:Int) - ((T - F:Nat):Int)) ⟨by omega,by omega⟩,if_neg (by omega),decide_eq_true (p:=0 < T - F) (by omega)]
  rfl
 ·have es:J88 l F T=((l.length:Int),0,[],[],()):=by unfold J88; rw [if_pos (by omega)]
  have hn:J9b ([]:List Pr)=true:=rfl
  rw [decide_eq_false c,Bool.false_and]
  unfold J9r
  rw [es]
  dsimp only
  rw [hn,decide_eq_true (p:=0≤(l.length:Int)∧(l.length:Int)≤30∧([]:List (List (List UInt8))).length=([]:List Pr).length) ⟨by omega,by omega,rfl⟩,decide_eq_true (p:=0≤(0:Int)∧(0:Int)≤(l.length:Int) - (([]:List Pr).length:Int)) ⟨by omega,by simp⟩,Bool.true_and,Bool.true_and,Bool.true_and]
  by_cases c0:l.length=0
  ·rw [if_pos c0,if_pos (by omega)]
  ·rw [if_neg c0,if_neg (by omega)]; rfl
theorem Jkr (l:List Pr) (h:J9b l=true) (F T:Nat) (hT:T≤l.length):J9r (J9m l) (J88 l F T)=(decide (l.length=0) || decide (F < T)):=by
 rw [Jul _ l h F T hT]
 by_cases c:l.length=0
 ·have:l=[]:=List.length_eq_zero_iff.1 c
  subst this
  rw [if_pos c,decide_eq_true c]
  exact (K13 _ _).2 rfl
 ·rw [if_neg c,decide_eq_false c,Bool.false_or,(K13 (J9m l) (J9m l)).2 rfl,Bool.and_true]
theorem Jdk (l:List Pr) (hr:J7v l) (a b:List UInt8) (F T:Nat) (hFT:F < T) (hT:T≤l.length) (h1:F=0∨F < J6l l a) (h2:T=l.length∨J6l l (maxS a b) < T):J89 ((l.drop F).take (T - F)) a b=J89 l a b:=by
 have hm:J6v b a=true∨J6l l b≤J6l l (maxS a b):=by
  unfold maxS
  cases c:J6v a b with
  | true=>exact .inr (Nat.le_refl _)
  | false=>
   rcases Jfm a b c with e | e
   ·exact .inr (by rw [e]; exact Nat.le_refl _)
   ·exact .inl e
 refine Jik (((hr.sublist (List.drop_sublist _ _)).sublist (List.take_sublist _ _)).sublist List.filter_sublist) (hr.sublist List.filter_sublist) fun q=>?_
 unfold J89
 rw [List.mem_filter,List.mem_filter]
 refine ⟨fun h=>⟨List.mem_of_mem_drop (List.mem_of_mem_take h.1),h.2⟩,fun h=>⟨?_,h.2⟩⟩
 obtain ⟨g1,g2⟩:=h
 unfold inR at g2
 rw [Bool.and_eq_true,Bool.not_eq_true'] at g2
 obtain ⟨i,hi,rfl⟩:=List.getElem_of_mem g1
 have hg:l.getD i zPr=l[i]:=by rw [List.getD_eq_getElem?_getD,List.getElem?_eq_getElem hi]; rfl
 rw [← hg] at g2 ⊢
 have q1:=(J8g hr b hi).1 g2.2
 have q2:J6l l a≤i:=by
  apply Classical.byContradiction
  intro c
  rw [(J8g hr a hi).2 (by omega)] at g2; cases g2.1
 have q3:i < T:=by
  rcases hm with e | e
  ·have:=J82 _ _ _ g2.2 e
   rw [g2.1] at this; cases this
  ·omega
 have hm2:((l.drop F).take (T - F)).getD (i - F) zPr=l.getD i zPr:=by
  rw [List.getD_eq_getElem?_getD,List.getD_eq_getElem?_getD,List.getElem?_take,if_pos (by omega),List.getElem?_drop]
  congr 2; omega
 rw [← hm2]
 exact J7e (by rw [List.length_take,List.length_drop]; omega)
theorem Jzk (l:List Pr) {F T:Nat} (hFT:F < T) (hT:T≤l.length):((l.drop F).take (T - F)).length=T - F∧((l.drop F).take (T - F)).getD 0 zPr=l.getD F zPr∧((l.drop F).take (T - F)).getD (T - F - 1) zPr=l.getD (T - 1) zPr:=by
 refine ⟨by rw [List.length_take,List.length_drop]; omega,?_,?_⟩
 ·rw [List.getD_eq_getElem?_getD,List.getD_eq_getElem?_getD,List.getElem?_take,if_pos (by omega),List.getElem?_drop]; rfl
 ·rw [List.getD_eq_getElem?_getD,List.getD_eq_getElem?_getD,List.getElem?_take,if_pos (by omega),List.getElem?_drop]
  congr 2; omega
theorem Jqo (l:List Pr) (h:J9b l=true) (a b:List UInt8) (F T:Nat) (hT:T≤l.length) :
  Jab (J9m l) a b (J88 l F T)=if l.length=0∨(F < T∧(F=0∨F < J6l l a)∧(T=l.length∨J6l l (maxS a b) < T)) then (J89 l a b,true) else ([],false):=by
 obtain ⟨hk,hr⟩:=Jcz h
 unfold Jab
 rw [Jkr l h F T hT]
 by_cases c0:l.length=0
 ·have e0:l=[]:=List.length_eq_zero_iff.1 c0
  have es:J88 l F T=((l.length:Int),0,[],[],()):=by unfold J88; rw [if_pos (by omega)]
  rw [decide_eq_true c0,Bool.true_or,if_pos rfl,es,if_pos (by rfl),if_pos (.inl c0),e0]; rfl
 rw [decide_eq_false c0,Bool.false_or]
 by_cases c:F < T
 ·obtain ⟨e1,e2,e3⟩:=Jzk l c hT
  rw [decide_eq_true c,if_pos rfl]
  have hb:Jl4 (J88 l F T) a=decide (F=0∨F < J6l l a):=by
   unfold Jl4
   rw [Jaf l c]
   dsimp only
   rw [e2,Bool.eq_iff_iff,Bool.or_eq_true,decide_eq_true_eq,decide_eq_true_eq,J8g hr a (by omega)]
   omega
  have he:Jzj (J88 l F T) (maxS a b)=decide (T=l.length∨J6l l (maxS a b) < T):=by
   unfold Jzj
   rw [Jaf l c]
   dsimp only
   rw [e1,e3,Bool.eq_iff_iff,Bool.or_eq_true,decide_eq_true_eq,decide_eq_true_eq,Bool.not_eq_true',← Bool.not_eq_true,J8g hr _ (by omega)]
   omega
  rw [hb,he,Jaf l c]
  dsimp only
  rw [e1,if_neg (by omega)]
  by_cases q:(F=0∨F < J6l l a)∧(T=l.length∨J6l l (maxS a b) < T)
  ·have hP:l.length=0∨(F < T∧(F=0∨F < J6l l a)∧(T=l.length∨J6l l (maxS a b) < T)):=.inr ⟨c,q⟩
   rw [decide_eq_true q.1,decide_eq_true q.2,Bool.true_and,if_pos rfl,if_pos hP,Jdk l hr a b F T c hT q.1 q.2]
  ·have hP:¬ (l.length=0∨(F < T∧(F=0∨F < J6l l a)∧(T=l.length∨J6l l (maxS a b) < T))):=fun e=>e.elim c0 (fun e=>q e.2)
   have hQ:¬ (decide (F=0∨F < J6l l a) && decide (T=l.length∨J6l l (maxS a b) < T))=true:=by
    rw [Bool.and_eq_true,decide_eq_true_eq,decide_eq_true_eq]; exact q
   rw [if_neg hP,if_neg hQ]
 ·have hP:¬ (l.length=0∨(F < T∧(F=0∨F < J6l l a)∧(T=l.length∨J6l l (maxS a b) < T))):=fun e=>e.elim c0 (fun e=>c e.1)
  rw [decide_eq_false c,if_neg (by simp),if_neg hP]
theorem Jgq (l:List Pr) (hrt:J9b l=true) (a b:List UInt8):Jab (J9m l) a b (J88 l (J6l l a - 1) (min (J6l l (maxS a b)+1) l.length))=(J89 l a b,true):=by
 have h1:=below_le l a
 have h2:=below_le l (maxS a b)
 have h3:J6v (maxS a b) a=false:=by
  unfold maxS
  cases c:J6v a b with
  | true=>
   show J6v b a=false
   cases q:J6v b a with
   | false=>rfl
   | true=>have:=J82 _ _ _ c q; rw [Jae] at this; cases this
  | false=>exact Jae a
 have h4:=Jte l (maxS a b) a h3
 rw [Jqo l hrt _ _ _ _ (by omega),if_pos]
 by_cases c:l.length=0
 ·exact .inl c
 ·exact .inr ⟨by omega,by omega,by omega⟩
theorem Jya (l:List Pr) {k:Nat} (hk:k < l.length):J88 l k (k+1)=((l.length:Int),(k:Int),[l.getD k zPr],[Jbe (J6z l) (k:Int)],()):=by
 unfold J88
 rw [if_neg (by omega),show k+1 - k=0+1 from by omega,Jdu l (by omega),Jj3]
 rfl
abbrev Rsp:=Int×Int×List Pr×Prf×Unit
abbrev Qry:=Int×List UInt8×List UInt8×Int×Int×Unit
def admR (r:Rsp):Bool:=decide (1≤r.2.1) && (decide (r.2.1≤16) && J9b r.2.2.1)
theorem Jhn (r:Rsp) (h:r.2.2.1.length≤1073741824):J4b r=some (admR r):=by
 unfold J4b admR
 rw [Jcq _ h]
 cases decide (1≤r.2.1) <;> cases decide (r.2.1≤16) <;> rfl
noncomputable def admS (q:Qry) (root:List UInt8) (r:Rsp):Int:=
 if admR r then
  if q.1=2 then (if (Jab root q.2.1 q.2.2.1 r.2.2.2.1).2 && decide ((Jab root q.2.1 q.2.2.1 r.2.2.2.1).1=r.2.2.1) then 0 else 2)
  else if r.2.2.1.length=0 then (if absS root q.2.1 r.2.2.2.1 then 0 else 2)
  else if r.2.2.1.length=1 then (if decide ((r.2.2.1.getD 0 zPr).1=q.2.1) && Jk8 root (r.2.2.1.getD 0 zPr) r.2.2.2.1 then 0 else 2)
  else 2
 else 1
theorem Jue {root a b:List UInt8} {p:Prf} (h:Jl2 p):(Jab root a b p).1.length≤1000000:=by
 have:=h.2.1
 unfold Jab
 split
 ·split
  ·simp
  ·split
   ·exact Nat.le_trans (List.length_filter_le _ _) this
   ·simp
 ·simp
theorem Jpk (q:Qry) (root:List UInt8) (r:Rsp) (h:Jl2 r.2.2.2.1) (hl:r.2.2.1.length≤1073741824):J4z q root r=some (admS q root r):=by
 unfold J4z admS
 rw [Jhn r hl,J6c]
 cases admR r with
 | false=>rfl
 | true=>
  rw [Bool.not_true,J6j,if_pos rfl]
  by_cases c:q.1=2
  ·have hrl:=Jue (root:=root) (a:=q.2.1) (b:=q.2.2.1) h
   rw [J6g c,if_pos c,Jeq _ _ _ _ h,J6c]
   cases (Jab root q.2.1 q.2.2.1 r.2.2.2.1).2 with
   | false=>rfl
   | true=>
    rw [Bool.not_true,J6j,Joq _ _ (by omega),J6c,Bool.true_and]
    cases decide ((Jab root q.2.1 q.2.2.1 r.2.2.2.1).1=r.2.2.1) <;> rfl
  ·rw [J6e c,if_neg c]
   by_cases c0:r.2.2.1.length=0
   ·rw [J6g (by omega),if_pos c0,Jjt _ _ _ h,J6c]
    cases absS root q.2.1 r.2.2.2.1 <;> rfl
   ·rw [J6e (by omega),if_neg c0]
    by_cases c1:r.2.2.1.length=1
    ·rw [J6g (by omega),if_pos c1,J6d (by omega)]
     show fork (decide ((r.2.2.1.getD 0 zPr).1=q.2.1)) (andThen (J50 root (r.2.2.1.getD 0 zPr) r.2.2.2.1) _) _=_
     rw [Jla _ _ _ h,J6c]
     cases decide ((r.2.2.1.getD 0 zPr).1=q.2.1) with
     | false=>rfl
     | true=>
      rw [J7g,Bool.true_and]
      cases Jk8 root (r.2.2.1.getD 0 zPr) r.2.2.2.1 <;> rfl
    ·rw [J6e (by omega),if_neg c1]
def endQ (q:Qry):List UInt8:=if q.1=1 then q.2.1 else q.2.2.1
noncomputable def ansS (id:Int) (q:Qry) (h:Int) (l:List Pr):Rsp:=
 if q.1=1∧isAt l q.2.1=true then (id,h,[l.getD (J6l l q.2.1) zPr],J88 l (J6l l q.2.1) (J6l l q.2.1+1),())
 else (id,h,J89 l q.2.1 (endQ q),J88 l (J6l l q.2.1 - 1) (min (J6l l (maxS q.2.1 (endQ q))+1) l.length),())
def l1:List Pr:=[([97],[49],())]
def q1:Qry:=(1,[97],[],0,1,())
theorem Jj6 (l:List Pr) (k:List UInt8):J89 l k k=[]:=by
 unfold J89
 rw [List.filter_eq_nil_iff]
 intro p _
 unfold inR
 cases J6v p.1 k <;> simp
def Jax (l:List Int):Prop:=l.Pairwise (·≤·)
theorem Jig (x:Int):∀ l:List Int,(insI x l).Perm (x::l)
 | []=>List.Perm.refl _
 | y::r=>by
  unfold insI
  split
  ·exact List.Perm.refl _
  ·exact ((Jig x r).cons y).trans (List.Perm.swap x y r)
theorem Jih (x:Int):∀ {l:List Int},Jax l→Jax (insI x l)
 | [],_=>List.pairwise_singleton _ _
 | y::r,h=>by
  unfold insI
  obtain ⟨h1,h2⟩:=List.pairwise_cons.1 h
  split
  ·rename_i hxy
   exact List.pairwise_cons.2 ⟨fun z hz=>by rcases List.mem_cons.1 hz with rfl | hz; exact hxy; have:=h1 z hz; omega,h⟩
  ·rename_i hxy
   refine List.pairwise_cons.2 ⟨fun z hz=>?_,Jih x h2⟩
   rcases List.mem_cons.1 ((Jig x r).mem_iff.1 hz) with rfl | hz
   ·omega
   ·exact h1 z hz
theorem Jd5:∀ l:List Int,(srtI l).Perm l
 | []=>List.Perm.refl _
 | x::r=>(Jig x _).trans ((Jd5 r).cons x)
theorem Jah:∀ l:List Int,Jax (srtI l)
 | []=>List.Pairwise.nil
 | x::r=>Jih x (Jah r)
theorem Jeh {a b:List Int} (ha:Jax a) (hb:Jax b) (h:a.Perm b):a=b:=
 List.Perm.eq_of_pairwise (fun x y _ _ h1 h2=>by omega) ha hb h
theorem K45 {a b:List Int} (h:a.Perm b):srtI a=srtI b:=Jeh (Jah a) (Jah b) ((Jd5 a).trans (h.trans (Jd5 b).symm))
def insR:List Int→Int→List Int→List Int
 | [],x,B=>x::B
 | y::A,x,B=>if x < y then insR A x (y::B) else (y::A).reverse++x::B
theorem Jrq:∀ (A:List Int) (x:Int) (B:List Int),(insR A x B).length=A.length+B.length+1
 | [],x,B=>by simp [insR]
 | y::A,x,B=>by
  unfold insR
  split
  ·rw [Jrq]; simp only [List.length_cons]; omega
  ·simp; omega
theorem Jo4:∀ (A:List Int) (x:Int) (B:List Int),(insR A x B).Perm (A.reverse++x::B)
 | [],x,B=>List.Perm.refl _
 | y::A,x,B=>by
  unfold insR
  split
  ·refine (Jo4 A x (y::B)).trans ?_
   rw [List.reverse_cons,List.append_assoc]
   exact (List.Perm.swap y x B).append_left _
  ·exact List.Perm.refl _
theorem Jii:∀ {A:List Int} {x:Int} {B:List Int},Jax (A.reverse++B)→(∀ b ∈ B,x≤b)→Jax (insR A x B)
 | [],x,B,h,hb=>List.pairwise_cons.2 ⟨hb,h⟩
 | y::A,x,B,h,hb=>by
  unfold insR
  split
  ·rename_i hxy
   refine Jii (by rw [List.reverse_cons,List.append_assoc] at h; exact h) fun b hb'=>?_
   rcases List.mem_cons.1 hb' with rfl | hb'
   ·omega
   ·exact hb b hb'
  ·rename_i hxy
   obtain ⟨h1,h2,h3⟩:=List.pairwise_append.1 h
   refine List.pairwise_append.2 ⟨h1,List.pairwise_cons.2 ⟨hb,h2⟩,fun a ha b hb'=>?_⟩
   rcases List.mem_cons.1 hb' with rfl | hb'
   ·have hay:a≤y:=by
     rw [List.reverse_cons] at h1 ha
     rcases List.mem_append.1 ha with ha | ha
     ·exact (List.pairwise_append.1 h1).2.2 a ha y (List.mem_singleton.2 rfl)
     ·rw [List.mem_singleton.1 ha]; exact Int.le_refl _
    omega
   ·exact h3 a ha b hb'
theorem K2v (a b:Int):J57 a b=some (decide (a < b)):=by
 unfold J57 J4i
 rw [J6c,show (!decide (a=a))=false from by simp,J6j]
theorem Jwn (b i:Int) (C:List Int):∀ (A:List Int) (x:Int) (B:List Int),A.length+B.length+C.length≤1000→
  J2_1 0 b i (A.length:Int) (A.reverse++x::(B++C))=some (0,b,i,insR A x B++C)
 | [],x,B,hl=>by
  unfold J2_1
  refine J70 ?_
  show J2_1_step 0 b i 0 (x::(B++C))=_
  unfold J2_1_step
  rw [J6e (by omega)]
  rfl
 | y::A,x,B,hl=>by
  simp only [List.length_cons] at hl
  have hd:(y::A).reverse++x::(B++C)=A.reverse++y::x::(B++C):=by simp
  have hlen:(A.reverse++y::x::(B++C)).length=A.length+2+B.length+C.length:=by simp; omega
  have hn:(((y::A).length:Nat):Int)=(A.length:Int)+1:=by simp
  have w1:w64 ((A.length:Int)+1 - 1)=(A.length:Int):=by rw [J6h (by omega) (by omega)]; omega
  have g1:(A.reverse++y::x::(B++C)).getD (A.length+1) 0=x:=by
   rw [List.getD_eq_getElem?_getD,List.getElem?_append_right (by simp)]; simp
  have g2:(A.reverse++y::x::(B++C)).getD A.length 0=y:=by
   rw [List.getD_eq_getElem?_getD,List.getElem?_append_right (by simp)]; simp
  have tn:Int.toNat ((A.length:Int)+1)=A.length+1:=by omega
  have st:J2_1_step 0 b i ((A.length:Int)+1) (A.reverse++y::x::(B++C))=if x < y then some (.inl ((A.length:Int),A.reverse++x::y::(B++C))) else some (.inr (0,b,i,A.reverse++y::x::(B++C))):=by
   unfold J2_1_step
   rw [J6g (by omega),J6d (by rw [hlen]; omega),w1,J6d (by rw [hlen]; omega),tn,Int.toNat_natCast,g1,g2,K2v,J6c]
   by_cases c:x < y
   ·rw [J6g c,if_pos c,J6d (by rw [List.length_set,hlen]; omega)]
    congr 3
    rw [List.set_append_right _ _ (by simp),List.length_reverse,show A.length+1 - A.length=1 from by omega]
    rw [show (y::x::(B++C)).set 1 y=y::y::(B++C) from rfl,List.set_append_right _ _ (by simp),List.length_reverse,Nat.sub_self]
    rfl
   ·rw [J6e c,if_neg c]
  rw [hd,hn]
  unfold J2_1 insR
  by_cases c:x < y
  ·rw [if_pos c] at st ⊢
   rw [J76 (s':=((A.length:Int),A.reverse++x::((y::B)++C))) st]
   exact Jwn b i C A x (y::B) (by simp only [List.length_cons]; omega)
  ·rw [if_neg c] at st ⊢
   rw [J70 st,hd.symm]
   simp
theorem Js6 (n:Nat) (hn:n≤500):∀ (k i:Nat) (d:List Int),d.length=n→i+k=n→1≤i→Jax (d.take i)→∃ r,J2_2 0 (n:Int) (i:Int) d=some r∧r.Perm d∧Jax r
 | 0,i,d,hd,hi,h1,hs=>by
  refine ⟨d,?_,List.Perm.refl _,by rw [List.take_of_length_le (by omega)] at hs; exact hs⟩
  unfold J2_2
  refine J70 ?_
  show J2_2_step 0 (n:Int) (i:Int) d=_
  unfold J2_2_step
  rw [J6e (by omega)]
 | k+1,i,d,hd,hi,h1,hs=>by
  have hlt:i < d.length:=by omega
  have hsplit:d=(d.take i).reverse.reverse++d[i]::([]++d.drop (i+1)):=by
   rw [List.reverse_reverse,List.nil_append,List.getElem_cons_drop,List.take_append_drop]
  have hlA:((d.take i).reverse.length:Int)=(i:Int):=by rw [List.length_reverse,List.length_take]; omega
  have hin:=Jwn (n:Int) (i:Int) (d.drop (i+1)) (d.take i).reverse d[i] [] (by rw [List.length_reverse,List.length_take,List.length_drop,List.length_nil]; omega)
  rw [← hsplit,hlA] at hin
  have hp:=Jo4 (d.take i).reverse d[i] []
  have hs2:=Jii (A:=(d.take i).reverse) (x:=d[i]) (B:=[]) (by rw [List.reverse_reverse,List.append_nil]; exact hs) (by simp)
  have hlr:=Jrq (d.take i).reverse d[i] []
  rw [List.length_reverse,List.length_take,List.length_nil] at hlr
  have hpd:(insR (d.take i).reverse d[i] []++d.drop (i+1)).Perm d:=by
   refine (hp.append_right _).trans ?_
   rw [List.append_assoc]
   have:=hsplit
   simp only [List.nil_append] at this
   rw [List.cons_append,List.nil_append,← this]
  obtain ⟨r,e,p1,p2⟩:=Js6 n hn k (i+1) (insR (d.take i).reverse d[i] []++d.drop (i+1)) (by rw [hpd.length_eq]; exact hd) (by omega) (by omega) (by
   rw [List.take_append_of_le_length (by omega),List.take_of_length_le (by omega)]; exact hs2)
  refine ⟨r,?_,p1.trans hpd,p2⟩
  unfold J2_2 at e ⊢
  rw [J76 (s':=(0,(n:Int),((i+1:Nat):Int),insR (d.take i).reverse d[i] []++d.drop (i+1))) (by
   show J2_2_step 0 (n:Int) (i:Int) d=_
   unfold J2_2_step
   rw [J6g (by omega),hin,J6c]
   dsimp only
   rw [J6h (by omega) (by omega)]
   rfl)]
  exact e
set_option maxRecDepth 100000 in
theorem len_ok:∀ n:Nat,n≤12→∃ k,J65 (UInt64.ofNat (Int.toNat ((n:Int) % 18446744073709551616)))=some k:=by
 intro n hn
 have:n=0∨n=1∨n=2∨n=3∨n=4∨n=5∨n=6∨n=7∨n=8∨n=9∨n=10∨n=11∨n=12:=by omega
 rcases this with rfl | rfl | rfl | rfl | rfl | rfl | rfl | rfl | rfl | rfl | rfl | rfl | rfl <;> exact ⟨_,rfl⟩
set_option maxRecDepth 100000 in
theorem K44 (d:List Int) (hd:d.length≤12):J23 d=some (srtI d):=by
 obtain ⟨k,hk⟩:=len_ok d.length hd
 have main:J2 0 (d.length:Int) d=some (srtI d):=by
  unfold J2
  rw [show w64 ((0:Int)+1)=((1:Nat):Int) from rfl]
  by_cases c:d.length=0
  ·have:d=[]:=List.eq_nil_of_length_eq_zero c
   subst this
   unfold J2_2
   rw [J70 (r:=[]) rfl]; rfl
  ·obtain ⟨r,e,p1,p2⟩:=Js6 d.length (by omega) (d.length - 1) 1 d rfl (by omega) (Nat.le_refl 1) (by
    match d,c with
    | x::l,_=>exact List.pairwise_singleton _ _)
   rw [e,J6c,Jeh p2 (Jah d) (p1.trans (Jd5 d).symm)]
 unfold J23 Jq Jq_1
 rw [hk,J6c,J70 (r:=srtI d) (by
  show Jq_1_step 0 (d.length:Int) k true true d=_
  unfold Jq_1_step
  rw [J6h (by omega) (by omega),J6g (by omega),main,J6c])]
 rfl
theorem Jyb {α:Type} (f:(List (Int×α))→Option (List Int)) (l:List (Int×α)) (hl:l.length≤12)
  (hf:f l=Ju6 (∀ ss:List Int,ss.Perm (l.map (·.1))→J23 ss=some (srtI (l.map (·.1)))) (need (List.length l≤1000) (some (srtI (l.map (·.1)))))):f l=some (srtI (l.map (·.1))):=by
 rw [hf,Ju8 (fun ss hs=>by rw [K44 ss (by rw [hs.length_eq,List.length_map]; exact hl),K45 hs]),J6d (by omega)]
abbrev Ent:=Qry×Int×Int×Unit
abbrev ib:Int→Int→Bool:=Ty.beq (.int .i64)
theorem Jie (a b:Int):ib a b=decide (a=b):=by
 rw [Bool.eq_iff_iff,decide_eq_true_eq]
 exact Ty.beq_iff (.int .i64) rfl a b
def regF (g:Nat→Ent):Nat→Nat→List (Int×Ent)
 | _,0=>[]
 | s,m+1=>((s:Int)+1,g s)::regF g (s+1) m
def idsF:Nat→Nat→List Int
 | _,0=>[]
 | s,m+1=>((s:Int)+1)::idsF (s+1) m
def updG (g:Nat→Ent) (j:Nat) (y:Ent):Nat→Ent:=fun k=>if k=j then y else g k
theorem J9d {g h:Nat→Ent}:∀ (m s:Nat),(∀ j,s≤j→j < s+m→g j=h j)→regF g s m=regF h s m
 | 0,s,_=>rfl
 | m+1,s,e=>by
  unfold regF
  rw [e s (Nat.le_refl _) (by omega),J9d m (s+1) fun j h1 h2=>e j (by omega) (by omega)]
theorem Jsg (g:Nat→Ent):∀ (m s:Nat),(regF g s m).length=m
 | 0,s=>rfl
 | m+1,s=>by unfold regF; rw [List.length_cons,Jsg]
theorem Jov (g:Nat→Ent):∀ (m s:Nat),(regF g s m).map (·.1)=idsF s m
 | 0,s=>rfl
 | m+1,s=>by unfold regF idsF; rw [List.map_cons,Jov]
theorem Jg9 (g:Nat→Ent) (j:Nat):∀ (m s:Nat),s≤j→j < s+m→J6r ib ((j:Int)+1) (regF g s m)=some (g j)
 | 0,s,h1,h2=>by omega
 | m+1,s,h1,h2=>by
  unfold regF J6r
  rw [Jie]
  by_cases c:s=j
  ·subst c; rw [decide_eq_true rfl,cond_true]
  ·rw [decide_eq_false (by omega),cond_false]; exact Jg9 g j m (s+1) (by omega) (by omega)
theorem Jj9 (g:Nat→Ent) (j:Nat) (y:Ent):∀ (m s:Nat),s≤j→j < s+m→J6x ib ((j:Int)+1) y (regF g s m)=regF (updG g j y) s m
 | 0,s,h1,h2=>by omega
 | m+1,s,h1,h2=>by
  unfold regF J6x
  rw [Jie]
  by_cases c:s=j
  ·subst c
   rw [decide_eq_true rfl,cond_true]
   rw [show updG g s y s=y from if_pos rfl]
   congr 1
   exact J9d m (s+1) fun j h1 h2=>(if_neg (by omega)).symm
  ·rw [decide_eq_false (by omega),cond_false,Jj9 g j y m (s+1) (by omega) (by omega),show updG g j y s=g s from if_neg c]
theorem Jez:∀ (m s:Nat),(idsF s m).length=m
 | 0,s=>rfl
 | m+1,s=>by unfold idsF; rw [List.length_cons,Jez]
theorem Jrp:∀ {m s:Nat} {x:Int},x ∈ idsF s m→(s:Int)+1≤x
 | 0,s,x,h=>by cases h
 | m+1,s,x,h=>by
  unfold idsF at h
  rcases List.mem_cons.1 h with rfl | h
  ·omega
  ·have:=Jrp h; omega
theorem Jif:∀ (m s:Nat),Jax (idsF s m)
 | 0,s=>List.Pairwise.nil
 | m+1,s=>by
  unfold idsF
  exact List.pairwise_cons.2 ⟨fun x hx=>by have:=Jrp hx; omega,Jif m (s+1)⟩
theorem Jm1:∀ (m s i:Nat),i < m→(idsF s m).getD i 0=(s:Int)+i+1
 | 0,s,i,h=>by omega
 | m+1,s,0,h=>by unfold idsF; rw [List.getD_cons_zero]; omega
 | m+1,s,i+1,h=>by
  unfold idsF; rw [List.getD_cons_succ,Jm1 m (s+1) i (by omega)]; omega
theorem Jug (g:Nat→Ent) (m:Nat) (hm:m≤12):J3n (regF g 0 m)=some (idsF 0 m):=by
 rw [Jyb J3n (regF g 0 m) (by rw [Jsg]; exact hm) rfl,Jov,Jeh (Jah _) (Jif m 0) (Jd5 _)]
def J8x (p:Nat→Bool):Nat→List Int
 | 0=>[]
 | i+1=>J8x p i++(if p i then [(i:Int)+1] else [])
theorem Jfc (p:Nat→Bool):∀ i,(J8x p i).length≤i
 | 0=>Nat.le_refl _
 | i+1=>by unfold J8x; rw [List.length_append]; have:=Jfc p i; split <;> simp <;> omega
theorem K1i {p:Nat→Bool} {i:Nat} (h:p i=true):J8x p (i+1)=J8x p i++[(i:Int)+1]:=by show _++_=_; rw [if_pos h]
theorem Jxl {p:Nat→Bool} {i:Nat} (h:p i=false):J8x p (i+1)=J8x p i:=by show _++_=_; rw [h,if_neg (by simp),List.append_nil]
def J7q (b:Int) (x:Ent):Bool:=decide (0 < x.2.2.1) && decide (x.2.2.1 < b)
def J9t (b:Int) (x:Ent):Ent:=if J7q b x then (x.1,x.2.1,0,()) else x
def Jb8 (b:Int) (x:Ent):Bool:=!decide (x.2.1=0) && (!decide (b < x.2.1) && !decide (0 < x.2.2.1))
def askG (b:Int) (x:Ent):Ent:=if Jb8 b x then (x.1,(if 0 < x.1.2.2.2.1 then b+x.1.2.2.2.1 else 0),b+x.1.2.2.2.2.1,()) else x
def part (f:Ent→Ent) (g:Nat→Ent) (i:Nat):Nat→Ent:=fun j=>if j < i then f (g j) else g j
theorem Jj1 (f:Ent→Ent) (g:Nat→Ent) (m i:Nat) (hi:i < m):regF (updG (part f g i) i (f (g i))) 0 m=regF (part f g (i+1)) 0 m:=
 J9d m 0 fun j _ _=>by
  unfold updG part
  by_cases c:j=i
  ·subst c; rw [if_pos rfl,if_pos (by omega)]
  ·rw [if_neg c]
   by_cases c2:j < i
   ·rw [if_pos c2,if_pos (by omega)]
   ·rw [if_neg c2,if_neg (by omega)]
theorem Jfa (f:Ent→Ent) (g:Nat→Ent) (m i:Nat) (h:f (g i)=g i):regF (part f g i) 0 m=regF (part f g (i+1)) 0 m:=
 J9d m 0 fun j _ _=>by
  unfold part
  by_cases c:j=i
  ·subst c; rw [if_neg (by omega),if_pos (by omega),h]
  ·by_cases c2:j < i
   ·rw [if_pos c2,if_pos (by omega)]
   ·rw [if_neg c2,if_neg (by omega)]
def Jn8 (x:Ent):Prop:=0≤x.1.2.2.2.1∧x.1.2.2.2.1≤1000∧0≤x.1.2.2.2.2.1∧x.1.2.2.2.2.1≤1000
theorem Jun (m:Nat) (hm:m≤12) (g:Nat→Ent) (r:Int×Int×Int×Unit) (i:Nat) (hi:i < m) :
  Jc_1_step (m:Int) (i:Int) r (regF (part (J9t r.2.1) g i) 0 m) (J8x (fun j=>J7q r.2.1 (g j)) i) (idsF 0 m)=some (.inl (((i+1:Nat):Int),regF (part (J9t r.2.1) g (i+1)) 0 m,J8x (fun j=>J7q r.2.1 (g j)) (i+1))):=by
 have hg:(idsF 0 m).getD i 0=(i:Int)+1:=by rw [Jm1 m 0 i hi]; omega
 have hget:=Jg9 (part (J9t r.2.1) g i) i m 0 (Nat.zero_le _) (by omega)
 have hp:part (J9t r.2.1) g i i=g i:=if_neg (Nat.lt_irrefl i)
 have hl:=Jfc (fun j=>J7q r.2.1 (g j)) i
 rw [hp] at hget
 unfold Jc_1_step
 rw [J6g (by omega),J6d (by rw [Jez]; omega),Int.toNat_natCast,hg,hget,J6h (by omega) (by omega)]
 simp only [Option.getD_some]
 by_cases c1:0 < (g i).2.2.1
 ·rw [J6g c1]
  by_cases c2:(g i).2.2.1 < r.2.1
  ·have hL:J7q r.2.1 (g i)=true:=by unfold J7q; rw [decide_eq_true c1,decide_eq_true c2]; rfl
   rw [J6g c2,J6d (by rw [List.length_singleton]; omega),Jj9 _ i _ m 0 (Nat.zero_le _) (by omega)]
   have:=Jj1 (J9t r.2.1) g m i hi
   rw [show J9t r.2.1 (g i)=((g i).1,(g i).2.1,0,()) from by unfold J9t; rw [if_pos hL]] at this
   rw [this,K1i (p:=fun j=>J7q r.2.1 (g j)) hL]
   rfl
  ·have hL:J7q r.2.1 (g i)=false:=by unfold J7q; rw [decide_eq_false c2]; simp
   rw [J6e c2,Jfa (J9t r.2.1) g m i (by unfold J9t; rw [hL,if_neg (by simp)]),Jxl (p:=fun j=>J7q r.2.1 (g j)) hL]
   rfl
 ·have hL:J7q r.2.1 (g i)=false:=by unfold J7q; rw [decide_eq_false c1]; simp
  rw [J6e c1,Jfa (J9t r.2.1) g m i (by unfold J9t; rw [hL,if_neg (by simp)]),Jxl (p:=fun j=>J7q r.2.1 (g j)) hL]
  rfl
theorem Jxj (f:Ent→Ent) (g:Nat→Ent) (m:Nat):regF (part f g 0) 0 m=regF g 0 m:=J9d m 0 fun j _ _=>if_neg (by omega)
theorem K1g (f:Ent→Ent) (g:Nat→Ent) (m:Nat):regF (part f g m) 0 m=regF (fun j=>f (g j)) 0 m:=J9d m 0 fun j _ h=>if_pos (by omega)
theorem tick1 (m:Nat) (hm:m≤12) (g:Nat→Ent) (r:Int×Int×Int×Unit) :
  Jc_1 (m:Int) 0 r (regF g 0 m) [] (idsF 0 m)=some (r,regF (fun j=>J9t r.2.1 (g j)) 0 m,J8x (fun j=>J7q r.2.1 (g j)) m,idsF 0 m):=by
 have:=J6o (step:=fun (s:Int×(List (Int×Ent))×List Int)=>Jc_1_step (m:Int) s.1 r s.2.1 s.2.2 (idsF 0 m)) (fun i (_:Unit)=>((i:Int),regF (part (J9t r.2.1) g i) 0 m,J8x (fun j=>J7q r.2.1 (g j)) i)) (fun _ _=>()) (fun _=>(r,regF (part (J9t r.2.1) g m) 0 m,J8x (fun j=>J7q r.2.1 (g j)) m,idsF 0 m)) m (fun _ _=>True)
  (fun i w hi _=>⟨Jun m hm g r i hi,trivial⟩) (fun w _=>by
   show Jc_1_step (m:Int) (m:Int) r _ _ (idsF 0 m)=_
   unfold Jc_1_step
   rw [J6e (by omega)]) m 0 () (by omega) trivial
 rw [K1g,Jxj] at this
 exact this
theorem Juo (m:Nat) (hm:m≤12) (g:Nat→Ent) (hg0:∀ j,Jn8 (g j)) (r:Int×Int×Int×Unit) (hr:0≤r.2.1∧r.2.1≤100000) (x4:List Int) (i:Nat) (hi:i < m) :
  Jc_2_step (m:Int) (i:Int) r (regF (part (askG r.2.1) g i) 0 m) x4 (J8x (fun j=>Jb8 r.2.1 (g j)) i) (idsF 0 m)=some (.inl (((i+1:Nat):Int),regF (part (askG r.2.1) g (i+1)) 0 m,J8x (fun j=>Jb8 r.2.1 (g j)) (i+1))):=by
 have hg:(idsF 0 m).getD i 0=(i:Int)+1:=by rw [Jm1 m 0 i hi]; omega
 have hget:=Jg9 (part (askG r.2.1) g i) i m 0 (Nat.zero_le _) (by omega)
 have hp:part (askG r.2.1) g i i=g i:=if_neg (Nat.lt_irrefl i)
 have hl:=Jfc (fun j=>Jb8 r.2.1 (g j)) i
 obtain ⟨o1,o2,o3,o4⟩:=hg0 i
 rw [hp] at hget
 have no:Jb8 r.2.1 (g i)=false→some (.inl (w64 ((i:Int)+1),regF (part (askG r.2.1) g i) 0 m,J8x (fun j=>Jb8 r.2.1 (g j)) i))=(some (.inl (((i+1:Nat):Int),regF (part (askG r.2.1) g (i+1)) 0 m,J8x (fun j=>Jb8 r.2.1 (g j)) (i+1))):Option ((Int×List (Int×Ent)×List Int)⊕((Int×Int×Int×Unit)×List (Int×Ent)×List Int×List Int))):=fun hL=>by
  rw [Jfa (askG r.2.1) g m i (by unfold askG; rw [hL,if_neg (by simp)]),Jxl (p:=fun j=>Jb8 r.2.1 (g j)) hL,J6h (by omega) (by omega)]
  rfl
 unfold Jc_2_step
 rw [J6g (by omega),J6d (by rw [Jez]; omega),Int.toNat_natCast,hg,hget]
 simp only [Option.getD_some]
 by_cases c1:(g i).2.1=0
 ·rw [J6g c1]; exact no (by unfold Jb8; rw [decide_eq_true c1]; rfl)
 rw [J6e c1]
 by_cases c2:r.2.1 < (g i).2.1
 ·rw [J6g c2]; exact no (by unfold Jb8; rw [decide_eq_true c2]; simp)
 rw [J6e c2]
 by_cases c3:0 < (g i).2.2.1
 ·rw [J6g c3]; exact no (by unfold Jb8; rw [decide_eq_true c3]; simp)
 rw [J6e c3]
 have hL:Jb8 r.2.1 (g i)=true:=by unfold Jb8; rw [decide_eq_false c1,decide_eq_false c2,decide_eq_false c3]; rfl
 have hs:=Jj1 (askG r.2.1) g m i hi
 rw [K1i (p:=fun j=>Jb8 r.2.1 (g j)) hL,← hs,show askG r.2.1 (g i)=((g i).1,(if 0 < (g i).1.2.2.2.1 then r.2.1+(g i).1.2.2.2.1 else 0),r.2.1+(g i).1.2.2.2.2.1,()) from by unfold askG; rw [if_pos hL]]
 by_cases c4:0 < (g i).1.2.2.2.1
 ·rw [J6g c4,J6d (by rw [List.length_singleton]; omega),Jj9 _ i _ m 0 (Nat.zero_le _) (by omega),J6h (n:=(i:Int)+1) (by omega) (by omega),J6h (n:=r.2.1+(g i).1.2.2.2.1) (by omega) (by omega),J6h (n:=r.2.1+(g i).1.2.2.2.2.1) (by omega) (by omega),if_pos c4]
  rfl
 ·rw [J6e c4,J6d (by rw [List.length_singleton]; omega),Jj9 _ i _ m 0 (Nat.zero_le _) (by omega),J6h (n:=(i:Int)+1) (by omega) (by omega),J6h (n:=r.2.1+(g i).1.2.2.2.2.1) (by omega) (by omega),if_neg c4]
  rfl
theorem tick2 (m:Nat) (hm:m≤12) (g:Nat→Ent) (hg0:∀ j,Jn8 (g j)) (r:Int×Int×Int×Unit) (hr:0≤r.2.1∧r.2.1≤100000) (x4:List Int) :
  Jc_2 (m:Int) 0 r (regF g 0 m) x4 [] (idsF 0 m)=some (r,regF (fun j=>askG r.2.1 (g j)) 0 m,x4,J8x (fun j=>Jb8 r.2.1 (g j)) m):=by
 have:=J6o (step:=fun (s:Int×(List (Int×Ent))×List Int)=>Jc_2_step (m:Int) s.1 r s.2.1 x4 s.2.2 (idsF 0 m)) (fun i (_:Unit)=>((i:Int),regF (part (askG r.2.1) g i) 0 m,J8x (fun j=>Jb8 r.2.1 (g j)) i)) (fun _ _=>()) (fun _=>(r,regF (part (askG r.2.1) g m) 0 m,x4,J8x (fun j=>Jb8 r.2.1 (g j)) m)) m (fun _ _=>True)
  (fun i w hi _=>⟨Juo m hm g hg0 r hr x4 i hi,trivial⟩) (fun w _=>by
   show Jc_2_step (m:Int) (m:Int) r _ x4 _ (idsF 0 m)=_
   unfold Jc_2_step
   rw [J6e (by omega)]) m 0 () (by omega) trivial
 rw [K1g,Jxj] at this
 exact this
theorem Ke {b:Int} {x:Ent} (h:Jn8 x):Jn8 (J9t b x):=by unfold J9t; split <;> exact h
theorem Jyn (m:Nat) (hm:m≤12) (g:Nat→Ent) (hg0:∀ j,Jn8 (g j)) (a b l:Int) (hb:0≤b∧b < 100000) (hl:0≤l∧l≤100000) :
  Jc (a,b,l,()) (regF g 0 m)=some ((a,b+1,l+(J8x (fun j=>J7q (b+1) (g j)) m).length,()),regF (fun j=>askG (b+1) (J9t (b+1) (g j))) 0 m,J8x (fun j=>J7q (b+1) (g j)) m,J8x (fun j=>Jb8 (b+1) (J9t (b+1) (g j))) m):=by
 have hpl:=Jfc (fun j=>J7q (b+1) (g j)) m
 unfold Jc
 rw [show J2o (regF g 0 m)=some () from rfl,J6c,Jug g m hm,J6c,Jez]
 dsimp only
 rw [J6h (n:=b+1) (by omega) (by omega),tick1 m hm g (a,b+1,l,()),J6c]
 dsimp only
 rw [Jez,J6h (by omega) (by omega),tick2 m hm (fun j=>J9t (b+1) (g j)) (fun j=>Ke (hg0 j)) (a,b+1,l+(J8x (fun j=>J7q (b+1) (g j)) m).length,()) ⟨by show 0≤b+1; omega,by show b+1≤100000; omega⟩]
 rfl
def RowG (l:List Pr):Prop:=J7v l∧l.length≤12∧KvOk l∧J9b l=true
theorem row_G {l:List Pr} (h:Jz1 l):RowG l:=⟨h.1,h.2.1,row_kv h,Jxz h⟩
theorem Jhp (id:Int) (q:Qry) (h:Int) (l:List Pr) (hrow:RowG l):Jl2 (ansS id q h l).2.2.2.1∧(ansS id q h l).2.2.1.length≤12∧J9b (ansS id q h l).2.2.1=true∧(ansS id q h l).1=id∧(ansS id q h l).2.1=h:=by
 have hk:=hrow.2.2.1
 have hl:=hrow.2.1
 have hrt:=hrow.2.2.2
 have hb:=below_le l q.2.1
 unfold ansS
 split
 ·rename_i c
  have:=(Je8 c.2).1
  have hs:[l.getD (J6l l q.2.1) zPr].Sublist l:=List.singleton_sublist.2 (J7e this)
  exact ⟨Jsx l hk _ _ (by omega),by simp,Jjc hrt hs,rfl,rfl⟩
 ·exact ⟨Jsx l hk _ _ (by omega),Nat.le_trans (List.length_filter_le _ _) hl,Jjc hrt List.filter_sublist,rfl,rfl⟩
theorem K1v {l:List Pr} (hrow:RowG l) {q:Qry} (hq:q.1=1∨q.1=2) (id h:Int) (h1:1≤h∧h≤16):admR (ansS id q h l)=true∧admS q (J9m l) (ansS id q h l)=0:=by
 have hk:=hrow.2.2.1
 have hrt:=hrow.2.2.2
 have hr:=hrow.1
 obtain ⟨o1,o2,o3,o4,o5⟩:=Jhp id q h l hrow
 have hR:admR (ansS id q h l)=true:=by
  unfold admR
  rw [o5,o3,decide_eq_true h1.1,decide_eq_true h1.2]; rfl
 refine ⟨hR,?_⟩
 unfold admS
 rw [hR,if_pos rfl]
 rcases hq with c | c
 ·rw [if_neg (by omega)]
  cases ha:isAt l q.2.1 with
  | true=>
   obtain ⟨q1,q2⟩:=Je8 ha
   have e:ansS id q h l=(id,h,[l.getD (J6l l q.2.1) zPr],J88 l (J6l l q.2.1) (J6l l q.2.1+1),()):=by unfold ansS; rw [if_pos ⟨c,ha⟩]
   rw [e]
   dsimp only
   rw [if_neg (by simp),if_pos (by rfl)]
   have he:Jk8 (J9m l) (l.getD (J6l l q.2.1) zPr) (J88 l (J6l l q.2.1) (J6l l q.2.1+1))=true:=by
    unfold Jk8
    rw [Jkr l hrt _ _ (by omega),decide_eq_true (show J6l l q.2.1 < J6l l q.2.1+1 by omega),Bool.or_true,Bool.true_and,decide_eq_true_eq,Jya l q1]
   rw [show [l.getD (J6l l q.2.1) zPr].getD 0 zPr=l.getD (J6l l q.2.1) zPr from rfl,he,decide_eq_true q2]; rfl
  | false=>
   have e:ansS id q h l=(id,h,J89 l q.2.1 q.2.1,J88 l (J6l l q.2.1 - 1) (min (J6l l (maxS q.2.1 q.2.1)+1) l.length),()):=by
    unfold ansS endQ; rw [if_neg (fun h=>by rw [ha] at h; cases h.2),if_pos c]
   have hA:absS (J9m l) q.2.1 (J88 l (J6l l q.2.1 - 1) (min (J6l l (maxS q.2.1 q.2.1)+1) l.length))=true:=by
    unfold absS
    rw [Jgq l hrt,Bool.true_and,Bool.not_eq_true',← Bool.not_eq_true]
    intro hat
    obtain ⟨z1,z2⟩:=Je8 hat
    have hm:=J7e (z:=zPr) z1
    generalize (J88 l (J6l l q.2.1 - 1) (min (J6l l (maxS q.2.1 q.2.1)+1) l.length)).2.2.1.getD (J6l (J88 l (J6l l q.2.1 - 1) (min (J6l l (maxS q.2.1 q.2.1)+1) l.length)).2.2.1 q.2.1) zPr=u at hm z2
    have hm2:u ∈ l:=by
     unfold J88 at hm
     split at hm
     ·cases hm
     ·exact List.mem_of_mem_drop (List.mem_of_mem_take hm)
    rw [(Jrr hr q.2.1).2 ⟨u,hm2,z2⟩] at ha; cases ha
   rw [e]
   dsimp only
   rw [Jj6,if_pos (by rfl),hA]; rfl
 ·rw [if_pos c]
  have e:ansS id q h l=(id,h,J89 l q.2.1 q.2.2.1,J88 l (J6l l q.2.1 - 1) (min (J6l l (maxS q.2.1 q.2.2.1)+1) l.length),()):=by
   unfold ansS endQ; rw [if_neg (by omega),if_neg (by omega)]
  rw [e]
  dsimp only
  rw [Jgq l hrt,decide_eq_true rfl]; rfl
theorem Jtb {l:List Pr} (hrow:RowG l) {q:Qry} (hq:q.1=1∨q.1=2) (id h:Int) (h1:1≤h∧h≤16):J4b (ansS id q h l)=some true∧J4z q (J9m l) (ansS id q h l)=some 0:=by
 obtain ⟨a,b,c,d,e⟩:=Jhp id q h l hrow
 obtain ⟨r,s⟩:=K1v hrow hq id h h1
 exact ⟨by rw [Jhn _ (by omega),r],by rw [Jpk _ _ _ a (by omega),s]⟩
theorem K1w {l:List Pr} (hrow:RowG l) {q:Qry} (hq:q.1=1∨q.1=2) (id h:Int):J5a id q h l=some (ansS id q h l):=by
 have hk:=hrow.2.2.1
 have hr:=hrow.1
 have hl:=hrow.2.1
 unfold J5a
 rcases hq with c | c
 ·rw [J6e (by omega),Jzs l hk hr,J6c]
  cases ha:isAt l q.2.1 with
  | true=>
   rw [if_pos rfl]
   dsimp only
   rw [J7g,Jcp l hr (by omega),J6c,ha,if_pos rfl]
   unfold ansS
   rw [if_pos ⟨c,ha⟩]
   dsimp only
   have:=(Je8 ha).2
   congr 3
   generalize l.getD (J6l l q.2.1) zPr=u at this ⊢
   rw [← this]
  | false=>
   rw [if_neg (by simp)]
   dsimp only
   rw [J6j,Juy l hk hr,J6c,ha,if_neg (by simp)]
   unfold ansS endQ
   rw [if_neg (fun h=>by rw [ha] at h; cases h.2),if_pos c,Jj6,Joj]
 ·rw [J6g c,Jkg l hr (by omega),J6c,Jse l hk hr,J6c]
  unfold ansS endQ
  rw [if_neg (by omega),if_neg (by omega)]
abbrev CalT:=Int×Int×List Pr×Unit
def zCal:CalT:=(0,0,[],())
def Jdm (c:CalT):Prop:=c.2.2.1.length≤1000
theorem Jhy (x0:Int) (x1:Int) (x2:List CalT):J0n_1_step x0 x1 x2 =
  (fork (decide (x1 < x0)) (need (0≤x1∧x1 < (List.length x2:Int)) (andThen (Jk ((List.getD x2 (Int.toNat x1) zCal).2.2.1)) (fun u6=>some (.inl ((w64 (x1+(1:Int))),(List.set x2 (Int.toNat x1) ((List.getD x2 (Int.toNat x1) zCal).1,(List.getD x2 (Int.toNat x1) zCal).2.1,u6,()))))))) (some (.inr x2)):Option ((Int×List CalT)⊕List CalT)):=rfl
theorem K0e {α:Type} (l:List α) (i:Nat) (z:α):l.set i (l.getD i z)=l:=by
 by_cases h:i < l.length
 ·rw [List.getD_eq_getElem?_getD,List.getElem?_eq_getElem h]; exact List.set_getElem_self h
 ·rw [List.set_eq_of_length_le (by omega)]
theorem Jpp (l:List CalT) (hl:l.length≤1000) (h:∀ c ∈ l,Jdm c):J0n l=some l:=by
 have m:J0n_1 (l.length:Int) 0 l=some l:=by
  unfold J0n_1
  refine J6o (step:=fun (s:Int×List CalT)=>J0n_1_step (l.length:Int) s.1 s.2) (fun i (_:Unit)=>((i:Int),l)) (fun _ _=>()) (fun _=>l) l.length (fun _ _=>True) (fun i w hi _=>⟨?_,trivial⟩) (fun w _=>?_) l.length 0 () (by omega) trivial
  ·show J0n_1_step (l.length:Int) (i:Int) l=_
   have hc:=h _ (J7e (z:=zCal) hi)
   unfold Jdm at hc
   rw [Jhy,J6g (by omega),J6d (by omega),Int.toNat_natCast]
   unfold Jk
   rw [J6d (by omega),J6c,J6h (by omega) (by omega)]
   rw [show ((l.getD i zCal).1,(l.getD i zCal).2.1,(l.getD i zCal).2.2.1,())=l.getD i zCal from rfl,K0e]
   rfl
  ·show J0n_1_step (l.length:Int) (l.length:Int) l=_
   rw [Jhy,J6e (by omega)]
 unfold J0n J3m
 rw [J6d (by omega),J6c,m]
 rfl
theorem pushG (c:CalT) (l:List CalT) (hl:l.length < 8) (hc:Jdm c) (h:∀ c ∈ l,Jdm c):J3c [c] (l,())=some (1,(),l++[c]):=by
 unfold J3c J1o
 rw [J6c,Jpp l (by omega) h,J6c]
 dsimp only
 rw [J6h (by omega) (by omega),show (([c].length:Nat):Int)=1 from rfl,show min (1:Int) (8 - (l.length:Int))=1 from by omega,J6d (by omega)]
 rw [show cutL [c] (0:Int) 1=[c] from rfl,Jpp [c] (by simp) (by simpa using hc),J6c,J6d (by simp only [List.length_singleton]; omega)]
theorem roomG (l:List CalT) (hl:l.length≤8):J1o (l,())=some (8 - (l.length:Int)):=by
 unfold J1o
 dsimp only
 rw [J6h (by omega) (by omega)]
theorem popG (c:CalT) (l:List CalT) (hl:l.length≤1000):J20 (c::l,())=some (c,true,(l,())):=by
 unfold J20
 dsimp only
 rw [J6e (by rw [List.length_cons]; omega),J6d (by rw [List.length_cons]; omega),J6d (by rw [List.length_cons]; omega)]
 unfold cutL
 rw [Int.toNat_natCast,List.take_length]
 rfl
theorem popG0:J20 (([]:List CalT),())=some (zCal,false,([],())):=rfl
abbrev zH:List UInt8:=List.replicate 32 (0:UInt8)
def secS (seed:List UInt8) (i v:Nat):List UInt8:=sha (115::(seed++[UInt8.ofNat i,UInt8.ofNat v]))
def pubS (s:List UInt8):List UInt8:=sha (112::s)
def keyS (ps:List (List UInt8)):List UInt8:=sha (107::ps.flatten)
def digS (m:List UInt8):List UInt8:=sha (109::m)
def bitN (d:List UInt8) (i:Nat):Nat:=((d.getD (i / 8) 0).toNat >>> (7 - i % 8)) % 2
theorem Jhs (d:List UInt8) (i:Nat):bitN d i≤1:=by unfold bitN; omega
abbrev One:=List (List UInt8)×List (List UInt8)×Unit
theorem Jsp (seed:List UInt8) (hs:seed.length=32) (i v:Nat) (hi:i < 256) (hv:v < 256):J3s seed (i:Int) (v:Int)=some (secS seed i v):=by
 unfold J3s
 have hf:[seed,[UInt8.ofNat (Int.toNat ((i:Int) % 256)),UInt8.ofNat (Int.toNat ((v:Int) % 256))]].flatten=seed++[UInt8.ofNat i,UInt8.ofNat v]:=by
  rw [J97,J97]; simp
 rw [J7w _ _ (by rw [hf]; simp; omega) (by simp),hf]
 rfl
theorem Jsc (s:List UInt8) (hs:s.length=32):J3r s=some (pubS s):=by
 unfold J3r
 have hf:[s].flatten=s:=by simp
 rw [J7w _ _ (by rw [hf]; omega) (by simp),hf]
 rfl
theorem Jc5 (seed:List UInt8) (i v:Nat):(secS seed i v).length=32:=J81 _
theorem Jmj (s:List UInt8):(pubS s).length=32:=J81 _
theorem Jrt (s:List (List UInt8)):(keyS s).length=32:=J81 _
theorem Jrn (m:List (List UInt8)) (hm:∀ x ∈ m,x.length=32):m.flatten.length=32 * m.length:=by
 induction m with
 | nil=>rfl
 | cons a m ih=>rw [List.flatten_cons,List.length_append,ih (fun x hx=>hm x (List.mem_cons_of_mem _ hx)),hm a List.mem_cons_self,List.length_cons]; omega
theorem Jnw (l:List (List UInt8)) {i:Nat} (h:i < l.length):(l.take i).flatten++l.getD i zH=(l.take (i+1)).flatten:=by
 rw [List.take_add_one,List.flatten_append,List.getD_eq_getElem?_getD,List.getElem?_eq_getElem h]
 simp
theorem Jh7 (l:List (List UInt8)) (h:∀ x ∈ l,x.length=32) (i:Nat):(l.getD i zH).length=32:=by
 rw [List.getD_eq_getElem?_getD]
 cases e:l[i]? with
 | none=>rfl
 | some x=>exact h x (List.mem_of_getElem? e)
theorem K18 (l:List (List UInt8)) (hl:l.length≤1000) (h:∀ x ∈ l,x.length=32):J2e l=some (keyS l):=by
 have hlen:∀ i,((l.take i).flatten).length≤32 * l.length:=fun i=>by
  rw [Jrn _ fun x hx=>h x (List.mem_of_mem_take hx),List.length_take]; omega
 have main:∀ z,J2e_1 l (l.length:Int) 0 z []=some (z,l.flatten):=by
  intro z
  unfold J2e_1
  have:=J6o (step:=fun (s:Int×List UInt8)=>J2e_1_step l (l.length:Int) s.1 z s.2) (fun i (_:Unit)=>((i:Int),(l.take i).flatten)) (fun _ _=>()) (fun _=>(z,l.flatten)) l.length (fun _ _=>True) (fun i w hi _=>⟨?_,trivial⟩) (fun w _=>?_) l.length 0 () (by omega) trivial
  ·exact this
  ·show J2e_1_step l (l.length:Int) (i:Int) z (l.take i).flatten=_
   unfold J2e_1_step
   have b:=hlen i
   have hm:(l.getD i (List.replicate 32 0)).length=32:=Jh7 l h i
   rw [J6g (by omega),J6d (by omega),Int.toNat_natCast,J6d (by omega),J6h (by omega) (by omega),Jnw l hi]
   rfl
  ·show J2e_1_step l (l.length:Int) (l.length:Int) z (l.take l.length).flatten=_
   unfold J2e_1_step
   rw [J6e (by omega),List.take_of_length_le (Nat.le_refl _)]
 unfold J2e
 have hf:[l.flatten].flatten=l.flatten:=by simp
 have:=Jrn l h
 rw [main,J6c]
 simp only
 rw [J7w _ _ (by rw [hf]; omega) (by simp),hf]
 rfl
theorem K0t (d:List UInt8) (i:Nat) (hi:i < 256):J5s d (i:Int)=some ((bitN d i:Nat):Int):=by
 unfold J5s
 have e1:Int.tdiv (i:Int) 8=((i / 8:Nat):Int):=by rw [Int.tdiv_eq_ediv_of_nonneg (by omega)]; omega
 have e2:Int.tmod (i:Int) 8=((i % 8:Nat):Int):=by rw [Int.tmod_eq_emod_of_nonneg (by omega)]; omega
 rw [e1,e2,J6h (by omega) (by omega),J6h (by omega) (by omega),J6d (by omega),J6d (by omega),Int.toNat_natCast,show Int.toNat (7 - ((i % 8:Nat):Int))=7 - i % 8 from by omega]
 generalize hx:d.getD (i / 8) 0=x
 have hlt:=x.toNat_lt
 have hs:x.toNat >>> (7 - i % 8)≤x.toNat:=by rw [Nat.shiftRight_eq_div_pow]; exact Nat.div_le_self _ _
 rw [UInt8.toNat_ofNat',Nat.mod_eq_of_lt (by omega)]
 have hb:=Jl3 (x.toNat >>> (7 - i % 8)) 1 (by omega) (by omega)
 rw [show ((1:Nat):Int)=1 from rfl] at hb
 rw [hb,show (1:Nat)=2 ^ 1 - 1 from rfl,Nat.and_two_pow_sub_one_eq_mod]
 unfold bitN
 rw [hx]
def Ju9 (seed:List UInt8) (i:Nat):List (List UInt8):=[pubS (secS seed i 0),pubS (secS seed i 1)]
def J8c (seed:List UInt8) (n:Nat):List (List UInt8):=(List.range n).flatMap (Ju9 seed)
theorem Jfb (seed:List UInt8) (n:Nat):(∀ x ∈ J8c seed n,x.length=32)∧(J8c seed n).length=2 * n:=by
 unfold J8c
 refine ⟨fun x hx=>?_,?_⟩
 ·obtain ⟨i,_,hi⟩:=List.mem_flatMap.1 hx
  simp only [Ju9,List.mem_cons,List.not_mem_nil,or_false] at hi
  rcases hi with rfl | rfl <;> exact Jmj _
 ·induction n with
  | zero=>rfl
  | succ n ih=>rw [List.range_succ,List.flatMap_append,List.length_append,ih]; simp [Ju9]; omega
theorem Jia {α β:Type} {f g:α→List β}:∀ {l:List α},(∀ a ∈ l,f a=g a)→l.flatMap f=l.flatMap g
 | [],_=>rfl
 | a::l,h=>by rw [List.flatMap_cons,List.flatMap_cons,h a List.mem_cons_self,Jia fun b hb=>h b (List.mem_cons_of_mem _ hb)]
theorem Jew {α:Type} (f:Nat→List α) (n:Nat):(List.range (n+1)).flatMap f=(List.range n).flatMap f++f n:=by
 rw [List.range_succ,List.flatMap_append]; simp
def KeyS (seed:List UInt8):List UInt8:=keyS (J8c seed 32)
theorem Key_eq (seed:List UInt8) (hs:seed.length=32):J2r seed=some (KeyS seed):=by
 have main:∀ z,J2r_1 0 seed z []=some (z,J8c seed 32):=by
  intro z
  unfold J2r_1
  have:=J6o (step:=fun (s:Int×List (List UInt8))=>J2r_1_step s.1 seed z s.2) (fun i (_:Unit)=>((i:Int),J8c seed i)) (fun _ _=>()) (fun _=>(z,J8c seed 32)) 32 (fun _ _=>True) (fun i w hi _=>⟨?_,trivial⟩) (fun w _=>?_) 32 0 () (by omega) trivial
  ·exact this
  ·show J2r_1_step (i:Int) seed z (J8c seed i)=_
   unfold J2r_1_step
   have hl:=(Jfb seed i).2
   have s0:=Jsp seed hs i 0 (by omega) (by omega)
   have s1:=Jsp seed hs i 1 (by omega) (by omega)
   rw [show ((0:Nat):Int)=0 from rfl] at s0
   rw [show ((1:Nat):Int)=1 from rfl] at s1
   rw [J6g (by omega),s0,J6c,Jsc _ (Jc5 _ _ _),J6c,s1,J6c,Jsc _ (Jc5 _ _ _),J6c,J6d (by simp; omega),J6h (by omega) (by omega)]
   unfold J8c
   rw [Jew]
   rfl
  ·show J2r_1_step 32 seed z (J8c seed 32)=_
   unfold J2r_1_step
   rw [J6e (by omega)]
 unfold J2r
 obtain ⟨h1,h2⟩:=Jfb seed 32
 rw [main,J6c]
 simp only
 rw [K18 _ (by omega) h1]
 rfl
def Jal (seed d:List UInt8) (n:Nat):List (List UInt8):=(List.range n).map fun i=>secS seed i (bitN d i)
def Jam (seed d:List UInt8) (n:Nat):List (List UInt8):=(List.range n).map fun i=>pubS (secS seed i (1 - bitN d i))
def Jjw (seed m:List UInt8):One:=(Jal seed (digS m) 32,Jam seed (digS m) 32,())
theorem mapRange {α:Type} (f:Nat→α) (n:Nat):(List.range (n+1)).map f=(List.range n).map f++[f n]:=by
 rw [List.range_succ,List.map_append]; rfl
theorem K0z (m:List UInt8) (hm:m.length≤100000):Jy 109 [m]=some (digS m):=by
 have hf:[m].flatten=m:=by simp
 rw [J7w _ _ (by rw [hf]; omega) (by simp),hf]
 rfl
theorem K41 (seed m:List UInt8) (hs:seed.length=32) (hm:m.length≤100000):J2a seed m=some (Jjw seed m):=by
 have main:∀ d,J2a_1 0 seed () () [] [] d=some ((),(),Jal seed d 32,Jam seed d 32):=by
  intro d
  unfold J2a_1
  have:=J6o (step:=fun (s:Int×List (List UInt8)×List (List UInt8))=>J2a_1_step s.1 seed () () s.2.1 s.2.2 d) (fun i (_:Unit)=>((i:Int),Jal seed d i,Jam seed d i)) (fun _ _=>()) (fun _=>((),(),Jal seed d 32,Jam seed d 32)) 32 (fun _ _=>True) (fun i w hi _=>⟨?_,trivial⟩) (fun w _=>?_) 32 0 () (by omega) trivial
  ·exact this
  ·show J2a_1_step (i:Int) seed () () (Jal seed d i) (Jam seed d i) d=_
   unfold J2a_1_step
   have hb:=Jhs d i
   have lo:(Jal seed d i).length=i:=by simp [Jal]
   have ls:(Jam seed d i).length=i:=by simp [Jam]
   rw [J6g (by omega),K0t d i (by omega),J6c,Jsp seed hs i _ (by omega) (by omega),J6c,J6d (by simp; omega),J6h (by omega) (by omega),show (1:Int) - ((bitN d i:Nat):Int)=((1 - bitN d i:Nat):Int) from by omega,
    Jsp seed hs i _ (by omega) (by omega),J6c,Jsc _ (Jc5 _ _ _),J6c,J6d (by simp; omega),J6h (by omega) (by omega)]
   unfold Jal Jam
   rw [mapRange,mapRange]
   rfl
  ·show J2a_1_step 32 seed () () (Jal seed d 32) (Jam seed d 32) d=_
   unfold J2a_1_step
   rw [J6e (by omega)]
 unfold J2a
 rw [K0z m hm,J6c,main,J6c]
 rfl
def Jh2 (d:List UInt8) (o s:List (List UInt8)) (i:Nat):List (List UInt8):=if bitN d i=0 then [pubS (o.getD i zH),s.getD i zH] else [s.getD i zH,pubS (o.getD i zH)]
def Jdz (d:List UInt8) (o s:List (List UInt8)):List (List UInt8):=(List.range 32).flatMap (Jh2 d o s)
def Len32 (l:List (List UInt8)):Prop:=∀ x ∈ l,x.length=32
def whoS (m:List UInt8) (x:One):List UInt8×Bool:=if x.1.length=32∧x.2.1.length=32 then (keyS (Jdz (digS m) x.1 x.2.1),true) else (zH,false)
theorem Jyt (d:List UInt8) (o s:List (List UInt8)) (i:Nat):(Jh2 d o s i).length=2:=by unfold Jh2; split <;> rfl
theorem Jgk (d:List UInt8) (o s:List (List UInt8)):∀ n,((List.range n).flatMap (Jh2 d o s)).length=2 * n
 | 0=>rfl
 | n+1=>by rw [Jew,List.length_append,Jgk d o s n,Jyt]; omega
theorem Jut (d:List UInt8) (o s:List (List UInt8)) (hs:Len32 s) (n:Nat):Len32 ((List.range n).flatMap (Jh2 d o s)):=by
 intro x hx
 obtain ⟨i,_,hi⟩:=List.mem_flatMap.1 hx
 unfold Jh2 at hi
 split at hi <;> simp only [List.mem_cons,List.not_mem_nil,or_false] at hi <;> rcases hi with rfl | rfl <;> first | exact Jmj _ | exact Jh7 s hs i
theorem Jst {α:Type} (a l:List α) (k:Nat) (x:α) (n:Nat) (h:n=a.length+k):(a++l).set n x=a++l.set k x:=by
 subst h; exact Jqx a l k x
theorem who_1 (d:List UInt8) (z:List UInt8) (x:One) (ho:x.1.length=32) (hs:x.2.1.length=32) (lo:Len32 x.1):J2s_1 0 x z d (List.replicate 64 zH)=some (z,Jdz d x.1 x.2.1):=by
 unfold J2s_1
 have:=J6o (step:=fun (s:Int×List (List UInt8))=>J2s_1_step s.1 x z d s.2) (fun i (_:Unit)=>((i:Int),(List.range i).flatMap (Jh2 d x.1 x.2.1)++List.replicate (64 - 2 * i) zH)) (fun _ _=>()) (fun _=>(z,Jdz d x.1 x.2.1)) 32 (fun _ _=>True) (fun i w hi _=>⟨?_,trivial⟩) (fun w _=>?_) 32 0 () (by omega) trivial
 ·exact this
 ·show J2s_1_step (i:Int) x z d ((List.range i).flatMap (Jh2 d x.1 x.2.1)++List.replicate (64 - 2 * i) zH)=_
  unfold J2s_1_step
  have hb:=Jhs d i
  have hl:=Jgk d x.1 x.2.1 i
  have hlen:((List.range i).flatMap (Jh2 d x.1 x.2.1)++List.replicate (64 - 2 * i) zH).length=64:=by rw [List.length_append,hl,List.length_replicate]; omega
  rw [J6g (by omega),K0t d i (by omega),J6c,J6d (by omega),Int.toNat_natCast,Jsc _ (Jh7 _ lo i),J6c,J6d (by omega)]
  have e1:w64 (w64 (2 * (i:Int))+((bitN d i:Nat):Int))=((2 * i+bitN d i:Nat):Int):=by rw [J6h (n:=2 * (i:Int)) (by omega) (by omega),J6h (by omega) (by omega)]; omega
  have e2:w64 (w64 (w64 (2 * (i:Int))+1) - ((bitN d i:Nat):Int))=((2 * i+1 - bitN d i:Nat):Int):=by rw [J6h (n:=2 * (i:Int)) (by omega) (by omega),J6h (n:=2 * (i:Int)+1) (by omega) (by omega),J6h (by omega) (by omega)]; omega
  rw [e1,e2,hlen,J6d (by omega),List.length_set,hlen,J6d (by omega),Int.toNat_natCast,Int.toNat_natCast,J6h (by omega) (by omega),Jew]
  have hr:List.replicate (64 - 2 * i) zH=zH::zH::List.replicate (64 - 2 * (i+1)) zH:=by
   rw [show 64 - 2 * i=(64 - 2 * (i+1))+1+1 from by omega,List.replicate_succ,List.replicate_succ]
  rw [hr]
  have hw:Jh2 d x.1 x.2.1 i=if bitN d i=0 then [pubS (x.1.getD i zH),x.2.1.getD i zH] else [x.2.1.getD i zH,pubS (x.1.getD i zH)]:=rfl
  rw [hw]
  rcases (show bitN d i=0∨bitN d i=1 by omega) with h0 | h0
  ·rw [h0,if_pos rfl,Jst _ _ 0 _ _ (by rw [hl]),Jst _ _ 1 _ _ (by rw [hl]; rfl),List.append_assoc]
   rfl
  ·rw [h0,if_neg (by omega),Jst _ _ 1 _ _ (by rw [hl]),Jst _ _ 0 _ _ (by rw [hl]; omega),List.append_assoc]
   rfl
 ·show J2s_1_step 32 x z d _=_
  unfold J2s_1_step
  rw [J6e (by omega)]
  simp [Jdz]
theorem who_eq (m:List UInt8) (hm:m.length≤100000) (x:One) (lo:Len32 x.1) (ls:Len32 x.2.1):J2s m x=some (whoS m x):=by
 unfold J2s whoS
 by_cases ho:x.1.length=32
 ·rw [J90 (by omega)]
  by_cases hs:x.2.1.length=32
  ·rw [J90 (by omega),K0z m hm,J6c,J6d (by omega),if_pos ⟨ho,hs⟩]
   have w:=who_1 (digS m) zH x ho hs lo
   rw [show Int.toNat (64:Int)=64 from rfl,w,J6c]
   simp only
   have hk:J2e (Jdz (digS m) x.1 x.2.1)=some (keyS (Jdz (digS m) x.1 x.2.1)):=K18 _ (by unfold Jdz; rw [Jgk]; omega) (Jut _ _ _ ls 32)
   rw [hk]
   rfl
  ·rw [Jaz (by omega),if_neg (fun h=>hs h.2)]
 ·rw [Jaz (by omega),if_neg (fun h=>ho h.1)]
theorem Jsv (seed m:List UInt8):(Jjw seed m).1.length=32∧(Jjw seed m).2.1.length=32∧Len32 (Jjw seed m).1∧Len32 (Jjw seed m).2.1:=by
 refine ⟨by simp [Jjw,Jal],by simp [Jjw,Jam],fun x hx=>?_,fun x hx=>?_⟩
 ·obtain ⟨i,_,rfl⟩:=List.mem_map.1 hx; exact Jc5 _ _ _
 ·obtain ⟨i,_,rfl⟩:=List.mem_map.1 hx; exact Jmj _
theorem Jey (f:Nat→List UInt8) (n i:Nat) (h:i < n):((List.range n).map f).getD i zH=f i:=by
 rw [List.getD_eq_getElem?_getD,List.getElem?_map,List.getElem?_range h]; rfl
def Joo (seed d e:List UInt8) (i:Nat):List (List UInt8):=if bitN d i=bitN e i then Ju9 seed i else [pubS (secS seed i 1),pubS (secS seed i 0)]
theorem Jr5 (seed d e:List UInt8):Jdz e (Jal seed d 32) (Jam seed d 32)=(List.range 32).flatMap (Joo seed d e):=by
 unfold Jdz
 have:∀ i ∈ List.range 32,Jh2 e (Jal seed d 32) (Jam seed d 32) i=Joo seed d e i:=by
  intro i hi
  have hi:i < 32:=List.mem_range.1 hi
  unfold Jh2 Joo Jal Jam Ju9
  rw [Jey _ 32 i hi,Jey _ 32 i hi]
  have h1:=Jhs d i
  have h2:=Jhs e i
  rcases (show bitN d i=0∨bitN d i=1 by omega) with a | a <;> rcases (show bitN e i=0∨bitN e i=1 by omega) with b | b <;> simp [a,b]
 rw [Jia this]
theorem K0o (seed m:List UInt8):whoS m (Jjw seed m)=(KeyS seed,true):=by
 obtain ⟨h1,h2,_,_⟩:=Jsv seed m
 unfold whoS
 rw [if_pos ⟨h1,h2⟩]
 show (keyS (Jdz (digS m) (Jal seed (digS m) 32) (Jam seed (digS m) 32)),true)=_
 rw [Jr5]
 have:∀ i ∈ List.range 32,Joo seed (digS m) (digS m) i=Ju9 seed i:=fun i _=>if_pos rfl
 rw [Jia this]
 rfl
def Jjg (seed:List UInt8) (h:Nat):List UInt8:=sha (114::(seed++[UInt8.ofNat h]))
def Jg4 (seed:List UInt8) (n:Nat):List (List UInt8):=(List.range n).map fun i=>KeyS (Jjg seed (i+1))
def J92 (seed:List UInt8):List (List UInt8):=Jg4 seed 16
noncomputable def Jkf (seed:List UInt8):List UInt8:=J8p (J92 seed)
abbrev Sig:=Int×One×List (List UInt8)×Unit
noncomputable def byS (keys:List (List UInt8)) (seed:List UInt8) (h:Int) (m:List UInt8):Sig:=(h,Jjw (Jjg seed h.toNat) m,Jbe keys (h - 1),())
def noSig:Sig:=(0,([],[],()),[],())
def isH (h:Int):Bool:=decide (1≤h) && decide (h≤16)
def verS (id:List UInt8) (j:Int) (m:List UInt8) (s:Sig):Bool:=
 isH j && (decide (s.1=j) && ((whoS m s.2.1).2 && ((upS (whoS m s.2.1).1 (j - 1) 16 s.2.2.1).2 && Ty.beq (.arr 32 (.int .u8)) (upS (whoS m s.2.1).1 (j - 1) 16 s.2.2.1).1 id)))
theorem Jfk (seed:List UInt8) (h:Nat):(Jjg seed h).length=32:=J81 _
theorem Jyy (seed:List UInt8):(KeyS seed).length=32:=Jrt _
theorem Juv (seed:List UInt8) (hs:seed.length=32) (h:Nat):J5d seed (h:Int)=some (Jjg seed h):=by
 unfold J5d
 have hf:[seed,[UInt8.ofNat (Int.toNat ((h:Int) % 256))]].flatten=seed++[UInt8.ofNat h]:=by
  rw [J97]; simp
 rw [J7w _ _ (by rw [hf]; simp; omega) (by simp),hf]
 rfl
theorem Jij (seed:List UInt8) (n:Nat):(Jg4 seed n).length=n:=by simp [Jg4]
theorem Ka (seed:List UInt8) (n:Nat):Len32 (Jg4 seed n):=by
 intro x hx
 obtain ⟨i,_,rfl⟩:=List.mem_map.1 hx
 exact Jyy _
theorem J8i (seed:List UInt8):(J92 seed).length=16:=Jij _ _
theorem Je9 (seed:List UInt8):Small (J92 seed):=fun x hx=>by rw [Ka seed 16 x hx]; omega
theorem Kb (seed:List UInt8) (i:Nat) (h:i < 16):(J92 seed).getD i []=KeyS (Jjg seed (i+1)):=by
 unfold J92 Jg4
 rw [List.getD_eq_getElem?_getD,List.getElem?_map,List.getElem?_range h]; rfl
theorem K1u (seed:List UInt8) (hs:seed.length=32):J1n seed=some (J92 seed):=by
 have main:J1n_1 1 seed []=some (J92 seed):=by
  unfold J1n_1
  have:=J6o (step:=fun (s:Int×List (List UInt8))=>J1n_1_step s.1 seed s.2) (fun i (_:Unit)=>(((i+1:Nat):Int),Jg4 seed i)) (fun _ _=>()) (fun _=>J92 seed) 16 (fun _ _=>True) (fun i w hi _=>⟨?_,trivial⟩) (fun w _=>?_) 16 0 () (by omega) trivial
  ·exact this
  ·show J1n_1_step ((i+1:Nat):Int) seed (Jg4 seed i)=_
   unfold J1n_1_step
   have hl:=Jij seed i
   rw [J6g (by omega),Juv seed hs,J6c,Key_eq _ (Jfk _ _),J6c,J6d (by simp; omega),J6h (by omega) (by omega)]
   unfold Jg4
   rw [mapRange]
   rfl
  ·show J1n_1_step 17 seed (Jg4 seed 16)=_
   unfold J1n_1_step
   rw [J6e (by omega)]
   rfl
 unfold J1n
 rw [main]
 rfl
theorem K15 (h:Int):J5t h=some (isH h):=by
 unfold J5t isH
 by_cases c:1≤h
 ·rw [J6g c,decide_eq_true c]; rfl
 ·rw [J6e c,decide_eq_false c]; rfl
theorem isH_t {h:Int} (h1:1≤h) (h2:h≤16):isH h=true:=by unfold isH; rw [decide_eq_true h1,decide_eq_true h2]; rfl
theorem K2t {h:Int}:isH h=true↔1≤h∧h≤16:=by unfold isH; rw [Bool.and_eq_true,decide_eq_true_eq,decide_eq_true_eq]
theorem By_eq (keys:List (List UInt8)) (hk:keys.length < 64) (hks:Small keys) (seed m:List UInt8) (hs:seed.length=32) (h:Int) (h1:1≤h) (h2:h≤16) (hm:m.length≤100000):J64 keys seed h m=some (byS keys seed h m):=by
 obtain ⟨k,rfl⟩:=Int.eq_ofNat_of_zero_le (show 0≤h by omega)
 unfold J64 byS
 rw [K15,isH_t h1 h2,J6c,show (!true)=false from rfl,J6j,Juv seed hs,J6c,K41 _ m (Jfk _ _) hm,J6c,J6h (by omega) (by omega),Jxk keys _ hk hks,J6c,Int.toNat_natCast]
noncomputable def sigS (seed:List UInt8) (h:Int) (m:List UInt8):Sig:=byS (J92 seed) seed h m
theorem K0n (m:List UInt8) (x:One):(whoS m x).1.length=32:=by
 unfold whoS
 split
 ·exact Jrt _
 ·rfl
def Jta (s:Sig):Prop:=Len32 s.2.1.1∧Len32 s.2.1.2.1∧Len32 s.2.2.1∧s.2.2.1.length≤100000
theorem Ver_eq (id:List UInt8) (j:Int) (m:List UInt8) (hm:m.length≤100000) (s:Sig) (hs:Jta s):J52 id j m s=some (verS id j m s):=by
 obtain ⟨s1,s2,s3,s4⟩:=hs
 unfold J52 verS
 rw [K15,J6c]
 cases hj:isH j with
 | false=>rfl
 | true=>
  obtain ⟨j1,j2⟩:=K2t.1 hj
  rw [show (!true)=false from rfl,J6j,Bool.true_and]
  by_cases c:s.1=j
  ·rw [J90 c,decide_eq_true c,Bool.true_and,who_eq m hm s.2.1 s1 s2,J6c]
   cases (whoS m s.2.1).2 with
   | false=>rfl
   | true=>
    rw [show (!true)=false from rfl,J6j,Bool.true_and,J6h (by omega) (by omega),up_eq _ (by rw [K0n]; omega) _ _ (by omega) _ s3 s4,J6c]
    cases (upS (whoS m s.2.1).1 (j - 1) 16 s.2.2.1).2 <;> rfl
  ·rw [Jaz c,decide_eq_false c]; rfl
theorem Jy5:∀ i,i < 16→(J8w 16 i 16).length=4:=by decide
theorem K1h (seed:List UInt8) (h:Int) (h1:1≤h) (h2:h≤16):Jbe (J92 seed) (h - 1)=J86 16 (J92 seed) (h - 1).toNat∧(Jbe (J92 seed) (h - 1)).length=4∧Len32 (Jbe (J92 seed) (h - 1)):=by
 have e:Jbe (J92 seed) (h - 1)=J86 16 (J92 seed) (h - 1).toNat:=by
  unfold Jbe
  rw [J8i,if_pos (by omega)]
 rw [e]
 refine ⟨rfl,?_,Jhe _ _ _⟩
 rw [Ja0 _ _ _ (by rw [J8i]; omega),J8i,Jy5 _ (by omega)]
theorem sig_ok (seed:List UInt8) (h:Int) (h1:1≤h) (h2:h≤16) (m:List UInt8):Jta (sigS seed h m):=by
 obtain ⟨_,_,a,b⟩:=Jsv (Jjg seed h.toNat) m
 obtain ⟨_,p1,p2⟩:=K1h seed h h1 h2
 exact ⟨a,b,p2,by show (Jbe (J92 seed) (h - 1)).length≤100000; omega⟩
theorem Kj:Jta noSig:=⟨(fun x hx=>nomatch hx),(fun x hx=>nomatch hx),(fun x hx=>nomatch hx),by show (0:Nat)≤100000; omega⟩
theorem K4d (id seed:List UInt8) (h:Int) (h1:1≤h) (h2:h≤16) (m:List UInt8):verS id h m (sigS seed h m)=Ty.beq (.arr 32 (.int .u8)) (Jkf seed) id:=by
 obtain ⟨p0,p1,p2⟩:=K1h seed h h1 h2
 have hw:whoS m (sigS seed h m).2.1=(KeyS (Jjg seed h.toNat),true):=K0o _ _
 have hk:KeyS (Jjg seed h.toNat)=(J92 seed).getD (h - 1).toNat []:=by
  rw [Kb seed _ (by omega),show (h - 1).toNat+1=h.toNat from by omega]
 have hup:upS (KeyS (Jjg seed h.toNat)) (h - 1) 16 (sigS seed h m).2.2.1=(Jkf seed,true):=by
  show upS (KeyS (Jjg seed h.toNat)) (h - 1) 16 (Jbe (J92 seed) (h - 1))=_
  unfold upS
  have e16:(16:Int).toNat=16:=rfl
  rw [e16,if_pos ⟨(Jm5 _ _).2 (by omega),by rw [p1,Jy5 _ (by omega)]⟩,p0,hk]
  have:=Jme 16 (J92 seed) (h - 1).toNat (by rw [J8i]; omega) (by rw [J8i]; omega) (by rw [J8i]; omega)
  rw [J8i] at this
  rw [this]
  rfl
 unfold verS
 rw [hw,isH_t h1 h2]
 simp only
 rw [hup,decide_eq_true (show (sigS seed h m).1=h from rfl)]
 rfl
theorem Jms (seed:List UInt8) (hs:seed.length=32) (i v:Nat) (hi:i < 256) (hv:v < 256):J1e seed (i:Int) (v:Int)=some (secS seed i v):=by
 unfold J1e
 have hf:[seed,[UInt8.ofNat (Int.toNat ((i:Int) % 256)),UInt8.ofNat (Int.toNat ((v:Int) % 256))]].flatten=seed++[UInt8.ofNat i,UInt8.ofNat v]:=by
  rw [J97,J97]; simp
 rw [J7s _ _ (by rw [hf]; simp; omega) (by simp),hf]
 rfl
theorem Jqv (s:List UInt8) (hs:s.length=32):J24 s=some (pubS s):=by
 unfold J24
 have hf:[s].flatten=s:=by simp
 rw [J7s _ _ (by rw [hf]; omega) (by simp),hf]
 rfl
theorem K3c (m:List UInt8) (hm:m.length≤100000):Je 109 [m]=some (digS m):=by
 have hf:[m].flatten=m:=by simp
 rw [J7s _ _ (by rw [hf]; omega) (by simp),hf]
 rfl
theorem K3a (d:List UInt8) (i:Nat) (hi:i < 256):need (0≤(w64 (Int.tdiv (i:Int) (8:Int)))∧(w64 (Int.tdiv (i:Int) (8:Int))) < (32:Int)) (need (0≤(((UInt64.ofNat (Int.toNat ((w64 ((7:Int) - (Int.tmod (i:Int) (8:Int)))) % 18446744073709551616))).toNat:Nat):Int))
  (some (band ((UInt8.toNat (UInt8.ofNat (UInt8.toNat (List.getD d (Int.toNat (w64 (Int.tdiv (i:Int) (8:Int)))) (0:UInt8)) >>> (Int.toNat (((UInt64.ofNat (Int.toNat ((w64 ((7:Int) - (Int.tmod (i:Int) (8:Int)))) % 18446744073709551616))).toNat:Nat):Int)))):Nat):Int) (1:Int))))=some ((bitN d i:Nat):Int):=by
 have e1:Int.tdiv (i:Int) 8=((i / 8:Nat):Int):=by rw [Int.tdiv_eq_ediv_of_nonneg (by omega)]; omega
 have e2:Int.tmod (i:Int) 8=((i % 8:Nat):Int):=by rw [Int.tmod_eq_emod_of_nonneg (by omega)]; omega
 have e3:(UInt64.ofNat (Int.toNat ((7 - ((i % 8:Nat):Int)) % 18446744073709551616))).toNat=7 - i % 8:=by
  rw [show Int.toNat ((7 - ((i % 8:Nat):Int)) % 18446744073709551616)=7 - i % 8 from by omega,UInt64.toNat_ofNat']; omega
 rw [e1,e2,J6h (by omega) (by omega),J6h (by omega) (by omega),J6d (by omega),e3,J6d (by omega),Int.toNat_natCast,Int.toNat_natCast]
 generalize hx:d.getD (i / 8) 0=x
 have hlt:=x.toNat_lt
 have hs:x.toNat >>> (7 - i % 8)≤x.toNat:=by rw [Nat.shiftRight_eq_div_pow]; exact Nat.div_le_self _ _
 rw [UInt8.toNat_ofNat',Nat.mod_eq_of_lt (by omega)]
 have hb:=Jl3 (x.toNat >>> (7 - i % 8)) 1 (by omega) (by omega)
 rw [show ((1:Nat):Int)=1 from rfl] at hb
 rw [hb,show (1:Nat)=2 ^ 1 - 1 from rfl,Nat.and_two_pow_sub_one_eq_mod]
 unfold bitN
 rw [hx]
theorem K3b (m:List UInt8) (hm:m.length≤100000) (i:Nat) (hi:i < 256):J4g m (i:Int)=some ((bitN (digS m) i:Nat):Int):=by
 unfold J4g
 rw [K3c m hm,J6c]
 exact K3a (digS m) i hi
theorem K3k (l:List (List UInt8)) (hl:l.length≤1000) (h:∀ x ∈ l,x.length=32):J0h l=some (keyS l):=by
 have hlen:∀ i,((l.take i).flatten).length≤32 * l.length:=fun i=>by
  rw [Jrn _ fun x hx=>h x (List.mem_of_mem_take hx),List.length_take]; omega
 have main:∀ z,J0h_1 l (l.length:Int) 0 z []=some (z,l.flatten):=by
  intro z
  unfold J0h_1
  have:=J6o (step:=fun (s:Int×List UInt8)=>J0h_1_step l (l.length:Int) s.1 z s.2) (fun i (_:Unit)=>((i:Int),(l.take i).flatten)) (fun _ _=>()) (fun _=>(z,l.flatten)) l.length (fun _ _=>True) (fun i w hi _=>⟨?_,trivial⟩) (fun w _=>?_) l.length 0 () (by omega) trivial
  ·exact this
  ·show J0h_1_step l (l.length:Int) (i:Int) z (l.take i).flatten=_
   unfold J0h_1_step
   have b:=hlen i
   have hm:(l.getD i (List.replicate 32 0)).length=32:=Jh7 l h i
   rw [J6g (by omega),J6d (by omega),Int.toNat_natCast,J6d (by omega),J6h (by omega) (by omega),Jnw l hi]
   rfl
  ·show J0h_1_step l (l.length:Int) (l.length:Int) z (l.take l.length).flatten=_
   unfold J0h_1_step
   rw [J6e (by omega),List.take_of_length_le (Nat.le_refl _)]
 unfold J0h
 have hf:[l.flatten].flatten=l.flatten:=by simp
 have:=Jrn l h
 rw [main,J6c]
 simp only
 rw [J7s _ _ (by rw [hf]; omega) (by simp),hf]
 rfl
theorem K38 (seed:List UInt8) (hs:seed.length=32):J0g seed=some (KeyS seed):=by
 have main:∀ z,J0g_1 0 seed z []=some (z,J8c seed 32):=by
  intro z
  unfold J0g_1
  have:=J6o (step:=fun (s:Int×List (List UInt8))=>J0g_1_step s.1 seed z s.2) (fun i (_:Unit)=>((i:Int),J8c seed i)) (fun _ _=>()) (fun _=>(z,J8c seed 32)) 32 (fun _ _=>True) (fun i w hi _=>⟨?_,trivial⟩) (fun w _=>?_) 32 0 () (by omega) trivial
  ·exact this
  ·show J0g_1_step (i:Int) seed z (J8c seed i)=_
   unfold J0g_1_step
   have hl:=(Jfb seed i).2
   have s0:=Jms seed hs i 0 (by omega) (by omega)
   have s1:=Jms seed hs i 1 (by omega) (by omega)
   rw [show ((0:Nat):Int)=0 from rfl] at s0
   rw [show ((1:Nat):Int)=1 from rfl] at s1
   rw [J6g (by omega),s0,J6c,Jqv _ (Jc5 _ _ _),J6c,s1,J6c,Jqv _ (Jc5 _ _ _),J6c,J6d (by simp; omega),J6h (by omega) (by omega)]
   unfold J8c
   rw [Jew]
   rfl
  ·show J0g_1_step 32 seed z (J8c seed 32)=_
   unfold J0g_1_step
   rw [J6e (by omega)]
 unfold J0g
 obtain ⟨h1,h2⟩:=Jfb seed 32
 rw [main,J6c]
 simp only
 rw [K3k _ (by omega) h1]
 rfl
theorem K07 (seed m:List UInt8) (hs:seed.length=32) (hm:m.length≤100000):J09 seed m=some (Jjw seed m):=by
 have main:J09_1 m 0 seed () () [] []=some ((),(),Jal seed (digS m) 32,Jam seed (digS m) 32):=by
  generalize hd:digS m=d
  unfold J09_1
  have:=J6o (step:=fun (s:Int×List (List UInt8)×List (List UInt8))=>J09_1_step m s.1 seed () () s.2.1 s.2.2) (fun i (_:Unit)=>((i:Int),Jal seed d i,Jam seed d i)) (fun _ _=>()) (fun _=>((),(),Jal seed d 32,Jam seed d 32)) 32 (fun _ _=>True) (fun i w hi _=>⟨?_,trivial⟩) (fun w _=>?_) 32 0 () (by omega) trivial
  ·exact this
  ·show J09_1_step m (i:Int) seed () () (Jal seed d i) (Jam seed d i)=_
   unfold J09_1_step
   have hb:=Jhs d i
   have lo:(Jal seed d i).length=i:=by simp [Jal]
   have ls:(Jam seed d i).length=i:=by simp [Jam]
   rw [J6g (by omega),K3b m hm i (by omega),J6c,hd,Jms seed hs i _ (by omega) (by omega),J6c,J6d (by simp; omega),J6h (by omega) (by omega),show (1:Int) - ((bitN d i:Nat):Int)=((1 - bitN d i:Nat):Int) from by omega,
    Jms seed hs i _ (by omega) (by omega),J6c,Jqv _ (Jc5 _ _ _),J6c,J6d (by simp; omega),J6h (by omega) (by omega)]
   unfold Jal Jam
   rw [mapRange,mapRange]
   rfl
  ·show J09_1_step m 32 seed () () (Jal seed d 32) (Jam seed d 32)=_
   unfold J09_1_step
   rw [J6e (by omega)]
 unfold J09
 rw [main,J6c]
 rfl
theorem Jsd (seed:List UInt8) (hs:seed.length=32) (h:Nat):J2x seed (h:Int)=some (Jjg seed h):=by
 unfold J2x
 have hf:[seed,[UInt8.ofNat (Int.toNat ((h:Int) % 256))]].flatten=seed++[UInt8.ofNat h]:=by
  rw [J97]; simp
 rw [J7s _ _ (by rw [hf]; simp; omega) (by simp),hf]
 rfl
theorem Kt (seed:List UInt8) (hs:seed.length=32):J06 seed=some (J92 seed):=by
 have main:J06_1 1 seed []=some (J92 seed):=by
  unfold J06_1
  have:=J6o (step:=fun (s:Int×List (List UInt8))=>J06_1_step s.1 seed s.2) (fun i (_:Unit)=>(((i+1:Nat):Int),Jg4 seed i)) (fun _ _=>()) (fun _=>J92 seed) 16 (fun _ _=>True) (fun i w hi _=>⟨?_,trivial⟩) (fun w _=>?_) 16 0 () (by omega) trivial
  ·exact this
  ·show J06_1_step ((i+1:Nat):Int) seed (Jg4 seed i)=_
   unfold J06_1_step
   have hl:=Jij seed i
   rw [J6g (by omega),Jsd seed hs,J6c,K38 _ (Jfk _ _),J6c,J6d (by simp; omega),J6h (by omega) (by omega)]
   unfold Jg4
   rw [mapRange]
   rfl
  ·show J06_1_step 17 seed (Jg4 seed 16)=_
   unfold J06_1_step
   rw [J6e (by omega)]
   rfl
 unfold J06
 rw [main]
 rfl
theorem rBy_eq (keys:List (List UInt8)) (hk:keys.length < 64) (hks:Small keys) (seed m:List UInt8) (hs:seed.length=32) (h:Int) (h1:1≤h) (h2:h≤16) (hm:m.length≤100000):J3u keys seed h m=some (byS keys seed h m):=by
 obtain ⟨k,rfl⟩:=Int.eq_ofNat_of_zero_le (show 0≤h by omega)
 unfold J3u byS
 rw [Jsd seed hs,J6c,K07 _ m (Jfk _ _) hm,J6c,J6h (by omega) (by omega),K06 keys _ hk hks,J6c,Int.toNat_natCast]
abbrev J7d:=List UInt8×Sig×Unit
def zSg:J7d:=(([]:List UInt8),((0:Int),(([]:List (List UInt8)),([]:List (List UInt8)),()),([]:List (List UInt8)),()),())
def nmsS (s:List J7d):List (List UInt8):=s.map (·.1)
theorem Js1 (s:List J7d) (i:Nat):(s.getD i zSg).1=(nmsS s).getD i []:=by
 unfold nmsS
 rw [List.getD_eq_getElem?_getD,List.getD_eq_getElem?_getD,List.getElem?_map]
 cases s[i]? <;> rfl
def incS (s:List J7d):Bool:=incN (nmsS s)
def Jga (s:List J7d):Bool:=incS s && decide (s.length≤5)
theorem Jeg (s:List J7d) (i:Int):J1p_1_step s i=(fork (decide (i < (s.length:Int))) (need (0≤(w64 (i - 1))∧(w64 (i - 1)) < (s.length:Int)) (need (0≤i∧i < (s.length:Int)) (fork (!J6v (s.getD (Int.toNat (w64 (i - 1))) zSg).1 (s.getD (Int.toNat i) zSg).1) (some (.inr (.inl false))) (some (.inl (w64 (i+1))))))) (some (.inr (.inr s))):Option (Int⊕(Bool⊕List J7d))):=rfl
theorem Jsn (s:List J7d) {ρ:Type} (r r0:ρ):∀ (k i:Nat),i+k=s.length - 1→(∀ j,j < i→J6v (s.getD j zSg).1 (s.getD (j+1) zSg).1=true)→
  scan (fun i=>if J6v (s.getD i zSg).1 (s.getD (i+1) zSg).1=true then none else some r) r0 i k=if incS s=true then r0 else r
 | 0,i,h,hj=>by
  have:incS s=true:=List.all_eq_true.2 fun j hj'=>by
   have hj':j < (nmsS s).length - 1:=by simpa using hj'
   have hl:(nmsS s).length=s.length:=by simp [nmsS]
   rw [← Js1,← Js1]
   exact hj j (by omega)
  rw [if_pos this]; rfl
 | k+1,i,h,hj=>by
  rw [scan]
  by_cases e:J6v (s.getD i zSg).1 (s.getD (i+1) zSg).1=true
  ·rw [if_pos e]
   exact Jsn s r r0 k (i+1) (by omega) fun j hj'=>by
    rcases (show j < i∨j=i by omega) with h1 | rfl
    ·exact hj j h1
    ·exact e
  ·rw [if_neg e]
   have hl:(nmsS s).length=s.length:=by simp [nmsS]
   have:¬ incS s=true:=fun hall=>e (by
    have:=List.all_eq_true.1 hall i (by simp; omega)
    rwa [← Js1,← Js1] at this)
   rw [if_neg this]
theorem Jp4 (s:List J7d) (hs:s.length≤1073741824):J1p s=some (Jga s):=by
 have h:J1p_1 s 1=some (scan (fun i=>if J6v (s.getD i zSg).1 (s.getD (i+1) zSg).1=true then none else some (.inl false)) (.inr s) 0 (s.length - 1)):=by
  unfold J1p_1
  refine J93 (step:=fun (x:Int)=>J1p_1_step s x) (fun i=>((i+1:Nat):Int)) _ _ (s.length - 1) (fun i hi h=>?_) (fun i r hi h=>?_) ?_ (s.length - 1) 0 (by omega)
  ·rw [Jeg,J6g (by omega),J6h (n:=((i+1:Nat):Int) - 1) (by omega) (by omega),J6d (by omega),J6d (by omega),show Int.toNat (((i+1:Nat):Int) - 1)=i from by omega,Int.toNat_natCast]
   by_cases e:J6v (s.getD i zSg).1 (s.getD (i+1) zSg).1=true
   ·rw [e,J6h (by omega) (by omega)]; rfl
   ·rw [if_neg e] at h; cases h
  ·rw [Jeg,J6g (by omega),J6h (n:=((i+1:Nat):Int) - 1) (by omega) (by omega),J6d (by omega),J6d (by omega),show Int.toNat (((i+1:Nat):Int) - 1)=i from by omega,Int.toNat_natCast]
   by_cases e:J6v (s.getD i zSg).1 (s.getD (i+1) zSg).1=true
   ·rw [if_pos e] at h; cases h
   ·rw [if_neg e] at h; injection h with h; subst h
    rw [Bool.not_eq_true] at e
    rw [e]; rfl
  ·rw [Jeg,J6e (by omega)]
 unfold J1p Jga
 rw [h,J6c,Jsn s _ _ (s.length - 1) 0 (by omega) (fun j hj=>by omega)]
 cases incS s with
 | true=>
  show some (decide ((s.length:Int)≤5))=some (true && decide (s.length≤5))
  rw [Bool.true_and]
  congr 1
  exact decide_eq_decide.2 (by omega)
 | false=>rfl
def Jjl (h:Hdr):List UInt8:=sha (72::Jc8 h)
theorem Jjm (h:Hdr):(Jjl h).length=32:=J81 _
theorem Jym (h:Hdr) (hh:J8q h):J5f h=some (Jjl h):=by
 unfold J5f
 rw [Jid h hh]
 rfl
noncomputable def sgS (h:Hdr) (n seed:List UInt8):J7d:=(n,sigS seed h.1 (Jjl h),())
def SgOk (s:List J7d):Prop:=∀ x ∈ s,Jta x.2.1
theorem sg_at {s:List J7d} (h:SgOk s) (i:Nat):Jta (s.getD i zSg).2.1:=by
 rw [List.getD_eq_getElem?_getD]
 cases e:s[i]? with
 | none=>exact Kj
 | some x=>exact h x (List.mem_of_getElem? e)
def Jts (set:List Val) (h:Int) (d:List UInt8) (x:J7d):Bool:=(Jnu set x.1).2 && verS (Jnu set x.1).1.2.2.1 h d x.2.1
def Jcb (set:List Val) (h:Int) (d:List UInt8) (s:List J7d):List (List UInt8):=(s.filter (Jts set h d)).map (·.1)
def Jgu (set:List Val) (h:Hdr) (s:List J7d):List (List UInt8):=if Jga s then Jcb set h.1 (Jjl h) s else []
theorem Jkl (set:List Val) (h:Int) (d:List UInt8) (s:List J7d):(Jcb set h d s).length≤s.length:=by
 unfold Jcb
 rw [List.length_map]
 exact List.length_filter_le _ _
theorem Jqi (set:List Val) (h:Int) (d:List UInt8) (s:List J7d) {i:Nat} (hi:i < s.length):Jcb set h d (s.take (i+1))=Jcb set h d (s.take i)++(if Jts set h d (s.getD i zSg) then [(s.getD i zSg).1] else []):=by
 unfold Jcb
 rw [List.take_add_one,List.getElem?_eq_getElem hi,List.getD_eq_getElem?_getD,List.getElem?_eq_getElem hi]
 simp only [Option.toList_some,Option.getD_some,List.filter_append,List.map_append]
 by_cases hg:Jts set h d s[i]
 ·rw [List.filter_cons_of_pos hg,if_pos hg]; rfl
 ·rw [List.filter_cons_of_neg hg,if_neg hg]; rfl
theorem Jiu (set:List Val) (s:List J7d) (n i:Int) (h:Hdr) (o:List (List UInt8)) (d:List UInt8):J1g_1_step set s n i h o d=(fork (decide (i < n)) (need (0≤i∧i < (s.length:Int)) (andThen (J1w set (s.getD (Int.toNat i) zSg).1) (fun u9=>fork u9.2 (andThen (J52 u9.1.2.2.1 h.1 d (s.getD (Int.toNat i) zSg).2.1) (fun u12=>fork u12 (need (o.length+([(s.getD (Int.toNat i) zSg).1]:List (List UInt8)).length≤2147483648) (some (.inl ((w64 (i+1)),o++([(s.getD (Int.toNat i) zSg).1]:List (List UInt8)))))) (some (.inl ((w64 (i+1)),o))))) (some (.inl ((w64 (i+1)),o)))))) (some (.inr o)):Option ((Int×List (List UInt8))⊕(List (List UInt8)))):=rfl
theorem Ki (set:List Val) (hset:set.length≤1073741824) (h:Hdr) (hh:J8q h) (s:List J7d) (hl:s.length≤1073741824) (hs:SgOk s):J1g set h s=some (Jgu set h s):=by
 unfold J1g Jgu
 rw [Jp4 s hl,J6c]
 cases hr:Jga s with
 | false=>rfl
 | true=>
  have main:∀ d:List UInt8,d.length≤100000→J1g_1 set s (s.length:Int) 0 h [] d=some (Jcb set h.1 d s):=by
   intro d hd
   unfold J1g_1
   have:=J6o (step:=fun (x:Int×List (List UInt8))=>J1g_1_step set s (s.length:Int) x.1 h x.2 d) (fun i (_:Unit)=>((i:Int),Jcb set h.1 d (s.take i))) (fun _ _=>()) (fun _=>Jcb set h.1 d s) s.length (fun _ _=>True) (fun i w hi _=>⟨?_,trivial⟩) (fun w _=>?_) s.length 0 () (by omega) trivial
   ·exact this
   ·show J1g_1_step set s (s.length:Int) (i:Int) h (Jcb set h.1 d (s.take i)) d=_
    have b:=Jkl set h.1 d (s.take i)
    rw [List.length_take] at b
    have t:=Jqi set h.1 d s hi
    rw [Jiu,J6g (by omega),J6d (by omega),Int.toNat_natCast,K2k set hset,J6c,t,J6h (by omega) (by omega)]
    unfold Jts
    cases hf:(Jnu set (s.getD i zSg).1).2 with
    | false=>rw [J6j,Bool.false_and,if_neg (by simp),List.append_nil]; rfl
    | true=>
     rw [J7g,Bool.true_and,Ver_eq _ _ d hd _ (sg_at hs i),J6c]
     cases hv:verS (Jnu set (s.getD i zSg).1).1.2.2.1 h.1 d (s.getD i zSg).2.1 with
     | false=>rw [J6j,if_neg (by simp),List.append_nil]; rfl
     | true=>rw [J7g,J6d (by simp; omega),if_pos rfl]; rfl
   ·show J1g_1_step set s (s.length:Int) (s.length:Int) h (Jcb set h.1 d (s.take s.length)) d=_
    rw [Jiu,J6e (by omega),List.take_of_length_le (Nat.le_refl _)]
  rw [show (!true)=false from rfl,J6j,Jym h hh,J6c,main _ (by rw [Jjm]; omega),if_pos rfl]
  rfl
theorem Ju3 (set:List Val) (h:Hdr) (s:List J7d):(Jgu set h s).length≤s.length:=by
 unfold Jgu
 split
 ·exact Jkl _ _ _ _
 ·simp
def Jh0 (set:List Val) (h:Hdr) (s:List J7d):Int:=pow (fun v=>(Jgu set h s).contains v.1) set
def allS (set:List Val):Int:=pow (fun _=>true) set
theorem K1f (set:List Val) (hset:Jc7 set) (h:Hdr) (s:List J7d):0≤Jh0 set h s∧Jh0 set h s≤4294967296:=by
 have:=Jaa (fun v=>(Jgu set h s).contains v.1) set hset.2
 have:=hset.1
 unfold Jh0
 omega
theorem all_b (set:List Val) (hset:Jc7 set):0≤allS set∧allS set≤4294967296:=by
 have:=Jaa (fun _=>true) set hset.2
 have:=hset.1
 unfold allS
 omega
theorem Jgx (set:List Val) (hset:Jc7 set) (h:Hdr) (hh:J8q h) (s:List J7d) (hl:s.length≤1000000) (hs:SgOk s):J4y set h s=some (Jh0 set h s,allS set):=by
 have:=Ju3 set h s
 unfold J4y
 rw [Ki set (by have:=hset.1; omega) h hh s (by omega) hs,J6c,K0j set hset _ (by omega)]
 rfl
theorem Jvy (set:List Val) (hset:Jc7 set) (h:Hdr) (hh:J8q h) (s:List J7d) (hl:s.length≤1000000) (hs:SgOk s):J4s set h s=some (decide (allS set * 2 < Jh0 set h s * 3)):=by
 unfold J4s
 rw [Jgx set hset h hh s hl hs,J6c,Jxe _ 2 3 (K1f set hset h s) (all_b set hset) (by omega) (by omega)]
 rfl
theorem K43 (set:List Val) (hset:Jc7 set) (h:Hdr) (hh:J8q h) (s:List J7d) (hl:s.length≤1000000) (hs:SgOk s):J5e set h s=some (decide (allS set * 1 < Jh0 set h s * 3)):=by
 unfold J5e
 rw [Jgx set hset h hh s hl hs,J6c,Jxe _ 1 3 (K1f set hset h s) (all_b set hset) (by omega) (by omega)]
 rfl
def J9x (i:Nat):List UInt8:=List.set (List.set (List.replicate 32 (0:UInt8)) 0 (77:UInt8)) 1 (UInt8.ofNat i)
theorem Jfj (i:Nat):(J9x i).length=32:=by simp [J9x]
theorem Jq8 (i:Nat):J49 (i:Int)=some (J9x i):=by
 unfold J49
 rw [J97]
 rfl
noncomputable def Jf6 (p:Nat→Int) (i:Nat):Val:=(nm i,p i,Jkf (J9x i),())
noncomputable def J6i (p:Nat→Int) (n:Nat):List Val:=(List.range n).map (Jf6 p)
noncomputable def Jxu (ps:List Int):List Val:=J6i (pw ps) (setN ps)
noncomputable def midS (p:Nat→Int) (n i:Nat):List Val:=(List.range n).map fun j=>if j < i then Jf6 p j else Jqg p j
theorem mid_step (p:Nat→Int) (n i:Nat) (h:i < n):List.set (midS p n i) i (((midS p n i).getD i zVal).1,((midS p n i).getD i zVal).2.1,Jkf (J9x i),())=midS p n (i+1):=by
 have hg:(midS p n i).getD i zVal=Jqg p i:=by
  unfold midS
  rw [List.getD_eq_getElem?_getD,List.getElem?_map,List.getElem?_range h]
  simp
 rw [hg]
 unfold midS
 apply List.ext_getElem
 ·simp
 ·intro j h1 h2
  rw [List.getElem_set]
  simp only [List.getElem_map,List.getElem_range]
  by_cases e:i=j
  ·subst e; rw [if_pos rfl,if_pos (by omega)]; rfl
  ·rw [if_neg e]
   by_cases c:j < i
   ·rw [if_pos c,if_pos (by omega)]
   ·rw [if_neg c,if_neg (by omega)]
theorem Jss (ps:List Int):1≤setN ps∧setN ps≤4:=by unfold setN; omega
theorem K1e:∀ i,i < 4→∀ j,j < 4→nm i=nm j→i=j:=by decide
theorem K1d:∀ i,i < 4→∀ j,j < 4→i < j→J6v (nm i) (nm j)=true:=by decide
theorem Jui (p:Nat→Int) (n:Nat) (h:n≤4):Dist (J6i p n):=by
 unfold Dist J6i
 rw [List.map_map]
 rw [List.nodup_iff_pairwise_ne,List.pairwise_map]
 refine List.Pairwise.imp_of_mem (fun {a b} ha hb hab e=>hab (K1e a (by have:=List.mem_range.1 ha; omega) b (by have:=List.mem_range.1 hb; omega) e)) (List.nodup_iff_pairwise_ne.1 List.nodup_range)
theorem Jqr (p:Nat→Int) (n:Nat) (h:n≤4) (hp:∀ i,0≤p i∧p i≤2097152):Jc7 (J6i p n):=by
 refine ⟨by simp [J6i]; omega,fun v hv=>?_⟩
 obtain ⟨i,_,rfl⟩:=List.mem_map.1 hv
 exact hp i
theorem Jzy (set:List Val) (hd:Dist set) (h:Hdr) (h1:1≤h.1) (h2:h.1≤16) (v:Val) (hv:v ∈ set) (seed:List UInt8) (hk:v.2.2.1=Jkf seed):Jts set h.1 (Jjl h) (sgS h v.1 seed)=true:=by
 unfold Jts sgS
 simp only
 rw [K2l hd hv,hk,K4d _ _ _ h1 h2,Jeo]
 rfl
theorem sgS_ok (h:Hdr) (h1:1≤h.1) (h2:h.1≤16) (n seed:List UInt8):Jta (sgS h n seed).2.1:=sig_ok seed h.1 h1 h2 _
noncomputable def sgJ (h:Hdr) (js:List Nat):List J7d:=js.map fun j=>sgS h (nm j) (J9x j)
def pwJ (p:Nat→Int) (js:List Nat):Int:=(js.map p).sum
theorem pwJ_b (p:Nat→Int) (hp:∀ i,0≤p i∧p i≤2097152):∀ js,0≤pwJ p js∧pwJ p js≤2097152 * js.length
 | []=>⟨Int.le_refl _,Int.le_refl _⟩
 | j::js=>by
  have:=pwJ_b p hp js
  have:=hp j
  unfold pwJ at *
  rw [List.map_cons,List.sum_cons,List.length_cons]
  omega
theorem Kr (p:Nat→Int) (js ks:List Nat):pwJ p (js++ks)=pwJ p js+pwJ p ks:=by
 unfold pwJ; rw [List.map_append,List.sum_append]
theorem Jx7 (h:Hdr) (js:List Nat):nmsS (sgJ h js)=js.map nm:=by
 unfold nmsS sgJ
 rw [List.map_map]
 rfl
theorem Jwo {js:List Nat} (h1:js.Pairwise (· < ·)) (h2:∀ j ∈ js,j < 4):incN (js.map nm)=true:=by
 refine K2s _ ?_
 rw [List.pairwise_map]
 exact List.Pairwise.imp_of_mem (fun {a b} ha hb hab=>K1d a (h2 a ha) b (h2 b hb) hab) h1
theorem sgJ_ok (h:Hdr) (h1:1≤h.1) (h2:h.1≤16) (js:List Nat):SgOk (sgJ h js):=by
 intro x hx
 obtain ⟨j,_,rfl⟩:=List.mem_map.1 hx
 exact sgS_ok h h1 h2 _ _
theorem Jxt (h:Hdr) {js:List Nat} (h1:js.Pairwise (· < ·)) (h2:∀ j ∈ js,j < 4) (h3:js.length≤4):Jga (sgJ h js)=true:=by
 unfold Jga incS
 rw [Jx7,Jwo h1 h2,Bool.true_and,decide_eq_true_eq]
 simp [sgJ]; omega
theorem Jub (q:Val→Bool) (a b:List Val):pow q (a++b)=pow q a+pow q b:=by
 unfold pow
 rw [List.filter_append,List.map_append,List.sum_append]
theorem Jmh (p:Nat→Int) (q:Val→Bool) (f:Nat→Bool):∀ n,(∀ i,i < n→q (Jf6 p i)=f i)→pow q (J6i p n)=pwJ p ((List.range n).filter f)
 | 0,_=>rfl
 | n+1,h=>by
  have e:J6i p (n+1)=J6i p n++[Jf6 p n]:=by unfold J6i; rw [List.range_succ,List.map_append]; rfl
  rw [e,Jub,Jmh p q f n fun i hi=>h i (by omega),List.range_succ,List.filter_append,Kr,Kn,K34,h n (by omega)]
  congr 1
  by_cases c:f n
  ·rw [if_pos c,List.filter_cons_of_pos c,List.filter_nil]; simp [pwJ,Jf6]
  ·rw [if_neg c,List.filter_cons_of_neg c,List.filter_nil]; rfl
theorem Jpo {js:List Nat} {i:Nat} (h:∀ j ∈ js,j < 4) (hi:i < 4):(js.map nm).contains (nm i)=js.contains i:=by
 rw [Bool.eq_iff_iff]
 simp only [List.contains_iff_mem]
 constructor
 ·intro hm
  obtain ⟨j,hj,e⟩:=List.mem_map.1 hm
  rw [← K1e j (h j hj) i hi e]
  exact hj
 ·exact fun hm=>List.mem_map_of_mem hm
theorem Jmw (h:Hdr) (i:Nat):sgJ h (List.range (i+1))=sgJ h (List.range i)++[sgS h (nm i) (J9x i)]:=by
 unfold sgJ; rw [List.range_succ,List.map_append]; rfl
theorem Jgh (h:Hdr) (js:List Nat):(sgJ h js).length=js.length:=by simp [sgJ]
abbrev Block:=Hdr×List J7d×List Val×List Val×Unit
def zBlk:Block:=(zHdr,([]:List J7d),([]:List Val),([]:List Val),())
def J6k (n:Nat):List (List UInt8):=(List.range n).map J9x
def J6n (n:Nat):List (List (List UInt8)):=(List.range n).map fun i=>J92 (J9x i)
def J7r (n:Nat):List (List UInt8):=(List.range n).map nm
theorem J7x {α:Type} (f:Nat→α) (z:α) {n i:Nat} (h:i < n):((List.range n).map f).getD i z=f i:=by
 rw [List.getD_eq_getElem?_getD,List.getElem?_map,List.getElem?_range h]; rfl
theorem Jhc {α:Type} (f:Nat→α) (i:Nat):(List.range (i+1)).map f=(List.range i).map f++[f i]:=by
 rw [List.range_succ,List.map_append]; rfl
theorem J95 {α:Type} (f:Nat→α) (n:Nat):((List.range n).map f).length=n:=by simp
def setV (p:Nat→Int) (n:Nat):List Val:=(List.range n).map (Jqg p)
theorem setS_v (ps:List Int):setS ps=setV (pw ps) (setN ps):=rfl
theorem chain1 (n:Nat) (hn:n≤4) (set:List Val):Ji_1 (n:Int) 0 set []=some (set,J6k n):=by
 unfold Ji_1
 have:=J6o (step:=fun (t:Int×List (List UInt8))=>Ji_1_step (n:Int) t.1 set t.2) (fun i (_:Unit)=>((i:Int),J6k i)) (fun _ _=>()) (fun _=>(set,J6k n)) n (fun _ _=>True) (fun i w hi _=>⟨?_,trivial⟩) (fun w _=>?_) n 0 () (by omega) trivial
 ·exact this
 ·show Ji_1_step (n:Int) (i:Int) set (J6k i)=_
  unfold Ji_1_step
  have hl:(J6k i).length=i:=J95 _ _
  rw [J6g (by omega),Jq8,J6c,J6d (by rw [hl]; simp only [List.length_cons,List.length_nil]; omega),J6h (by omega) (by omega)]
  unfold J6k
  rw [Jhc]
  rfl
 ·show Ji_1_step (n:Int) (n:Int) set (J6k n)=_
  unfold Ji_1_step
  rw [J6e (by omega)]
theorem Jx5 (n i:Int) (set:List Val) (seeds:List (List UInt8)) (u:Unit) (r:List (List (List UInt8))) (ns:List (List UInt8)):Jn_1_step n i set seeds u r ns =
  (fork (decide (i < n)) (need (0≤i∧i < (List.length set:Int)) (need (List.length ns+List.length ([(set.getD (Int.toNat i) zVal).1]:List (List UInt8))≤2147483648) (need (0≤i∧i < (List.length seeds:Int)) (andThen (J06 (List.getD seeds (Int.toNat i) (List.replicate 32 (0:UInt8)))) (fun u6=>need (List.length r+List.length ([u6]:List (List (List UInt8)))≤2147483648) (some (.inl ((w64 (i+(1:Int))),(r++([u6]:List (List (List UInt8)))),(ns++([(set.getD (Int.toNat i) zVal).1]:List (List UInt8))))))))))) (some (.inr (set,seeds,u,r,ns))):Option ((Int×List (List (List UInt8))×List (List UInt8))⊕((List Val)×List (List UInt8)×Unit×List (List (List UInt8))×List (List UInt8)))):=rfl
theorem Jqj (p:Nat→Int) (n:Nat) (hn:n≤4):Jn (setV p n) (J6k n)=some (setV p n,J6k n,(),J6n n,J7r n):=by
 have hl:(setV p n).length=n:=J95 _ _
 have hs:(J6k n).length=n:=J95 _ _
 have main:Jn_1 (n:Int) 0 (setV p n) (J6k n) () [] []=some (setV p n,J6k n,(),J6n n,J7r n):=by
  unfold Jn_1
  have:=J6o (step:=fun (t:Int×List (List (List UInt8))×List (List UInt8))=>Jn_1_step (n:Int) t.1 (setV p n) (J6k n) () t.2.1 t.2.2) (fun i (_:Unit)=>((i:Int),J6n i,J7r i)) (fun _ _=>()) (fun _=>(setV p n,J6k n,(),J6n n,J7r n)) n (fun _ _=>True) (fun i w hi _=>⟨?_,trivial⟩) (fun w _=>?_) n 0 () (by omega) trivial
  ·exact this
  ·show Jn_1_step (n:Int) (i:Int) (setV p n) (J6k n) () (J6n i) (J7r i)=_
   have h1:(J6n i).length=i:=J95 _ _
   have h2:(J7r i).length=i:=J95 _ _
   have g1:(setV p n).getD i zVal=Jqg p i:=J7x _ _ hi
   have g2:(J6k n).getD i (List.replicate 32 (0:UInt8))=J9x i:=J7x _ _ hi
   rw [Jx5,J6g (by omega),J6d (by omega),Int.toNat_natCast,g1,g2,J6d (by rw [h2]; simp only [List.length_cons,List.length_nil]; omega),J6d (by omega),Kt _ (Jfj i),J6c,J6d (by rw [h1]; simp only [List.length_cons,List.length_nil]; omega),J6h (by omega) (by omega)]
   unfold J6n J7r
   rw [Jhc,Jhc]
   rfl
  ·show Jn_1_step (n:Int) (n:Int) (setV p n) (J6k n) () (J6n n) (J7r n)=_
   rw [Jx5,J6e (by omega)]
 unfold Jn
 rw [hl,main]
 rfl
theorem Jrc (n i:Int) (set:List Val) (u:Unit) (seeds:List (List UInt8)) (r:List (List (List UInt8))) (ns:List (List UInt8)):Ji_2_step n i set u seeds r ns =
  (fork (decide (i < n)) (need (0≤i∧i < (List.length r:Int)) (andThen (J08 (List.getD r (Int.toNat i) ([]:List (List UInt8)))) (fun u15=>need (0≤i∧i < (List.length set:Int)) (some (.inl ((w64 (i+(1:Int))),(List.set set (Int.toNat i) ((set.getD (Int.toNat i) zVal).1,(set.getD (Int.toNat i) zVal).2.1,u15,())))))))) (some (.inr (u,seeds,r,ns,set))):Option ((Int×List Val)⊕(Unit×List (List UInt8)×List (List (List UInt8))×List (List UInt8)×List Val))):=rfl
theorem chain2 (p:Nat→Int) (n:Nat) (hn:n≤4):Ji_2 (n:Int) 0 (setV p n) () (J6k n) (J6n n) (J7r n)=some ((),J6k n,J6n n,J7r n,J6i p n):=by
 have hr:(J6n n).length=n:=J95 _ _
 unfold Ji_2
 have:=J6o (step:=fun (t:Int×List Val)=>Ji_2_step (n:Int) t.1 t.2 () (J6k n) (J6n n) (J7r n)) (fun i (_:Unit)=>((i:Int),midS p n i)) (fun _ _=>()) (fun _=>((),J6k n,J6n n,J7r n,J6i p n)) n (fun _ _=>True) (fun i w hi _=>⟨?_,trivial⟩) (fun w _=>?_) n 0 () (by omega) trivial
 ·rw [show setV p n=midS p n 0 from by unfold setV midS; congr 1]
  exact this
 ·show Ji_2_step (n:Int) (i:Int) (midS p n i) () (J6k n) (J6n n) (J7r n)=_
  have hm:(midS p n i).length=n:=by simp [midS]
  have g1:(J6n n).getD i []=J92 (J9x i):=J7x _ _ hi
  rw [Jrc,J6g (by omega),J6d (by omega),Int.toNat_natCast,g1,Jhi _ (by rw [J8i]; omega) (Je9 _),J6c,J6d (by omega),J6h (by omega) (by omega)]
  show some (Sum.inl (_,List.set (midS p n i) i (((midS p n i).getD i zVal).1,((midS p n i).getD i zVal).2.1,Jkf (J9x i),())))=_
  rw [mid_step _ _ _ hi]
  rfl
 ·show Ji_2_step (n:Int) (n:Int) (midS p n n) () (J6k n) (J6n n) (J7r n)=_
  rw [Jrc,J6e (by omega)]
  unfold midS J6i
  congr 6
  apply List.map_congr_left
  intro j hj
  rw [if_pos (List.mem_range.1 hj)]
theorem Jre (ps:List Int) (hp:ps.length≤140737488351232):Ji ps=some ((),J6k (setN ps),J6n (setN ps),J7r (setN ps),Jxu ps):=by
 have hn:=Jss ps
 have hl:(setV (pw ps) (setN ps)).length=setN ps:=J95 _ _
 unfold Ji
 rw [set_eq ps hp,J6c,setS_v,hl,chain1 _ hn.2,J6c]
 simp only
 rw [Jqj _ _ hn.2,J6c]
 simp only
 rw [hl,chain2 _ _ hn.2]
 rfl
noncomputable def Jxx:List UInt8:=sha (83::(oneS 0++J8p []))
theorem Joz:Jxx.length=32:=J81 _
theorem Jn0:J2d []=some Jxx:=by
 have h1:J0m []=some []:=by
  unfold J0m J0m_1
  rw [J70 (r:=[]) rfl]; rfl
 have h2:=Jhi [] (by simp) (fun x hx=>nomatch hx)
 have h3:[oneS 0,J8p []].flatten=oneS 0++J8p []:=by simp
 have h4:(J8p []).length≤1000000:=by rw [J80]; omega
 have h5:=J7t 0
 unfold J2d
 rw [h1,J6c,h2,J6c]
 unfold J4l
 rw [show ((([]:List (List UInt8×List UInt8×Unit)).length:Int))=0 from rfl,Jgd,J6c,J7s _ _ (by rw [h3,List.length_append]; omega) (by simp),h3]
 rfl
def lastB (B:List Block):Block:=B.getD (B.length - 1) zBlk
noncomputable def hdS (S:List Val) (B:List Block) (t:Int):Hdr:=
 if B.length=0 then (1,t,Jxx,setH S,setH S,List.replicate 32 0,())
 else ((B.length:Int)+1,t,Jxx,setH (lastB B).2.2.2.1,setH S,sha (72::Jfw (lastB B).1),())
theorem Jtu (S:List Val) (B:List Block) (t:Int):J8q (hdS S B t):=by
 unfold hdS
 split
 ·exact ⟨Joz,J8m _,J8m _,by simp⟩
 ·exact ⟨Joz,J8m _,J8m _,J81 _⟩
theorem hdS_1 (S:List Val) (B:List Block) (t:Int):(hdS S B t).1=(B.length:Int)+1:=by
 unfold hdS; split
 ·show (1:Int)=_; omega
 ·rfl
theorem hdS_t (S:List Val) (B:List Block) (t:Int):(hdS S B t).2.1=t:=by unfold hdS; split <;> rfl
def nowS (S:List Val) (B:List Block):List Val:=if B.length=0 then S else (lastB B).2.2.2.1
theorem Jwm {S:List Val} {B:List Block} {t:Int} (hb:B.length < 16) (h1:0≤t) (h2:t≤1073741824):J8d (hdS S B t)=true:=by
 rw [Jc1,hdS_1,hdS_t]; omega
noncomputable def blkS (n:Nat) (S:List Val) (B:List Block) (t:Int):Block:=(hdS S B t,sgJ (hdS S B t) (List.range n),nowS S B,S,())
theorem Jyl {h:Hdr} (hr:J8d h=true):Jjl h=sha (72::Jfw h):=by
 unfold Jjl Jc8; rw [if_pos hr]
abbrev Rows:=List (List (List UInt8×List UInt8×Unit))
theorem Jtz (B:List Block) (b:Block):lastB (B++[b])=b:=by
 unfold lastB
 rw [List.length_append,List.getD_eq_getElem?_getD,List.getElem?_append_right (by simp)]
 simp
theorem Jmp (p:Nat→Int) (n:Nat) (h:n≤4):Jpi (J6i p n):=by
 refine ⟨by simp [J6i]; omega,fun v hv=>?_⟩
 obtain ⟨i,hi,rfl⟩:=List.mem_map.1 hv
 have hi:=List.mem_range.1 hi
 have:∀ i,i < 4→(nm i).length≤100000:=by decide
 exact ⟨this i (by omega),J80 _⟩
abbrev eqH (x y:List UInt8):Bool:=Ty.beq (.arr 32 (.int .u8)) x y
abbrev Cli:=List Hdr×List Val×Int×Bool×Unit
def Jt8 (l:List Val):Prop:=∀ v ∈ l,v.2.2.1.length=32
def K1s (b:Block):Prop:=J8q b.1∧SgOk b.2.1∧b.2.1.length≤1000000∧Jt8 b.2.2.1∧Jt8 b.2.2.2.1∧b.2.2.1.length≤1000000∧b.2.2.2.1.length≤1000000
theorem Jjb {l:List Val} (h:Jar l=true):Jc7 l∧l.length≤5∧1≤l.length∧∀ v ∈ l,v.1.length≤16:=by
 unfold Jar at h
 simp only [Bool.and_eq_true,decide_eq_true_eq] at h
 obtain ⟨h1,h2,h3⟩:=h
 have key:∀ v ∈ l,mayS v=true:=by
  intro v hv
  obtain ⟨i,hi,rfl⟩:=List.getElem_of_mem hv
  have:=List.all_eq_true.1 h1 i (List.mem_range.2 hi)
  unfold okAt at this
  rw [Bool.and_eq_true] at this
  rw [List.getD_eq_getElem?_getD,List.getElem?_eq_getElem hi] at this
  exact this.1
 have key2:∀ v ∈ l,v.1.length≤16∧1≤v.2.1∧v.2.1≤1048576:=by
  intro v hv
  have:=key v hv
  unfold mayS at this
  simp only [Bool.and_eq_true,decide_eq_true_eq] at this
  omega
 exact ⟨⟨by omega,fun v hv=>by have:=key2 v hv; omega⟩,h3,h2,fun v hv=>(key2 v hv).1⟩
theorem Jmo {l:List Val} (h:Jar l=true) (hk:Jt8 l):Jpi l:=by
 obtain ⟨_,h2,_,h4⟩:=Jjb h
 exact ⟨by omega,fun v hv=>⟨by have:=h4 v hv; omega,hk v hv⟩⟩
def Jjp (b:Block):Bool:=J8d b.1 && (Jar b.2.2.1 && (Jar b.2.2.2.1 && (decide (b.2.1.length≤5) && (eqH (setH b.2.2.1) b.1.2.2.2.1 && eqH (setH b.2.2.2.1) b.1.2.2.2.2.1))))
theorem K0p (b:Block) (hb:K1s b):J5j b=some (Jjp b):=by
 obtain ⟨b1,b2,b3,b4,b5,b6,b7⟩:=hb
 unfold J5j Jjp
 rw [Jcy,J6c]
 cases c1:J8d b.1 with
 | false=>rfl
 | true=>
  rw [J7g,right_eq _ (by omega),J6c]
  cases c2:Jar b.2.2.1 with
  | false=>rfl
  | true=>
   rw [J7g,right_eq _ (by omega),J6c]
   cases c3:Jar b.2.2.2.1 with
   | false=>rfl
   | true=>
    rw [J7g]
    by_cases c4:b.2.1.length≤5
    ·rw [J6g (by omega),J9f _ (Jmo c2 b4),J6c,decide_eq_true c4]
     cases c5:Ty.beq (.arr 32 (.int .u8)) (setH b.2.2.1) b.1.2.2.2.1 with
     | false=>rw [show eqH (setH b.2.2.1) b.1.2.2.2.1=false from c5]; rfl
     | true=>rw [show eqH (setH b.2.2.1) b.1.2.2.2.1=true from c5,J7g,J9f _ (Jmo c3 b5),J6c]; rfl
    ·rw [J6e (by omega),decide_eq_false c4]; rfl
def lastH (c:Cli):Hdr:=c.1.getD (c.1.length - 1) zHdr
theorem Jqc (c:Cli):J1m c=need (0≤(w64 ((List.length c.1:Int) - (1:Int)))∧(w64 ((List.length c.1:Int) - (1:Int))) < (List.length c.1:Int)) (some (List.getD c.1 (Int.toNat (w64 ((List.length c.1:Int) - (1:Int)))) zHdr)):=rfl
theorem Jo8 (c:Cli) (h1:1≤c.1.length) (h2:c.1.length≤1000000):J1m c=some (lastH c):=by
 rw [Jqc,J6h (by omega) (by omega),J6d (by omega)]
 unfold lastH
 congr 2
 omega
def K1t (c:Cli):Prop:=1≤c.1.length∧c.1.length≤1000000∧Jc7 c.2.1∧(0≤(lastH c).1∧(lastH c).1≤1099511627776)∧(0≤(lastH c).2.1∧(lastH c).2.1≤1099511627776)
theorem Jk9 (now:Int) (c:Cli) (hc:K1t c) (hn:-1099511627776≤now∧now≤1099511627776):J0l now c=some (decide (c.2.2.1 < now - (lastH c).2.1)):=by
 obtain ⟨h1,h2,_,_,h5⟩:=hc
 unfold J0l
 rw [Jo8 c h1 h2,J6c,J6h (by omega) (by omega)]
theorem Jes (l:List Val) (h:l.length≤2147483648):Ja l=some l:=by unfold Ja; rw [J6d h]
theorem Jhw (l:List Hdr) (h:l.length≤2147483648):J05 l=some l:=by unfold J05; rw [J6d h]
def enS (set:List Val) (h:Hdr) (s:List J7d):Bool:=decide (allS set * 2 < Jh0 set h s * 3)
def soS (set:List Val) (h:Hdr) (s:List J7d):Bool:=decide (allS set * 1 < Jh0 set h s * 3)
def cut6 (l:List Hdr):List Hdr:=if 6 < l.length then l.drop 1 else l
def updS (b:Block) (now:Int) (c:Cli):Int×Cli:=
 if c.2.2.2.1=true then (5,c) else if Jjp b=false then (1,c) else if b.1.1≤(lastH c).1 then (8,c) else if b.1.2.1≤(lastH c).2.1 then (1,c)
 else if c.2.2.1 < now - (lastH c).2.1 then (6,c) else if now < b.1.2.1 then (6,c)
 else if b.1.1=(lastH c).1+1∧eqH b.1.2.2.2.1 (lastH c).2.2.2.2.1=false then (9,c) else if enS b.2.2.1 b.1 b.2.1=false then (9,c)
 else if b.1.1≠(lastH c).1+1∧soS c.2.1 b.1 b.2.1=false then (9,c)
 else (0,(cut6 (c.1++[b.1]),b.2.2.2.1,c.2.2.1,c.2.2.2.1,()))
theorem K47 (b:Block) (c:Cli) (hc:c.1.length≤1000000) (hb:b.2.2.2.1.length≤1000000):(andThen (J05 c.1) (fun u22=>need (List.length u22+List.length ([b.1]:List Hdr)≤2147483648) (fork (decide ((6:Int) < (List.length (u22++([b.1]:List Hdr)):Int))) (need (0≤(1:Int)∧(1:Int)≤(List.length (u22++([b.1]:List Hdr)):Int)∧(List.length (u22++([b.1]:List Hdr)):Int)≤(List.length (u22++([b.1]:List Hdr)):Int)) (andThen (Ja b.2.2.2.1) (fun u27=>some ((0:Int),((cutL (u22++([b.1]:List Hdr)) (1:Int) (List.length (u22++([b.1]:List Hdr)):Int)),u27,c.2.2.1,c.2.2.2.1,()))))) (andThen (Ja b.2.2.2.1) (fun u29=>some ((0:Int),((u22++([b.1]:List Hdr)),u29,c.2.2.1,c.2.2.2.1,())))))):Option (Int×Cli)) =
  some (0,(cut6 (c.1++[b.1]),b.2.2.2.1,c.2.2.1,c.2.2.2.1,())):=by
 have hl:(c.1++[b.1]).length=c.1.length+1:=by simp
 have h1:([b.1]:List Hdr).length=1:=rfl
 rw [Jhw _ (by omega),J6c,J6d (by omega)]
 unfold cut6
 by_cases h:(6:Int) < ((c.1++[b.1]).length:Int)
 ·rw [J6g h,J6d (by omega),Jes _ (by omega),J6c,if_pos (by omega),J8z]
  rfl
 ·rw [J6e h,Jes _ (by omega),J6c,if_neg (by omega)]
theorem upd_eq (b:Block) (now:Int) (c:Cli) (hb:K1s b) (hc:K1t c) (hn:-1099511627776≤now∧now≤1099511627776):J2b b now c=some (updS b now c):=by
 have hex:=Jk9 now c hc hn
 obtain ⟨c1,c2,c3,c4,c5⟩:=hc
 have hw:=K0p b hb
 obtain ⟨b1,b2,b3,b4,b5,b6,b7⟩:=hb
 have wl:w64 ((lastH c).1+1)=(lastH c).1+1:=J6h (by omega) (by omega)
 have htail:=K47 b c (by omega) (by omega)
 unfold J2b updS
 rw [Jo8 c c1 c2,J6c]
 by_cases q1:c.2.2.2.1=true
 ·rw [q1,J7g,if_pos rfl]
 rw [if_neg q1]
 have q1:c.2.2.2.1=false:=by simpa using q1
 rw [q1] at htail ⊢
 rw [J6j,hw,J6c]
 cases q2:Jjp b with
 | false=>rw [if_pos rfl]; rfl
 | true=>
  rw [if_neg (by simp),Bool.not_true,J6j]
  have hset:Jc7 b.2.2.1:=by
   unfold Jjp at q2
   simp only [Bool.and_eq_true] at q2
   exact (Jjb q2.2.1).1
  by_cases q3:b.1.1≤(lastH c).1
  ·rw [J6g q3,if_pos q3]
  rw [J6e q3,if_neg q3]
  by_cases q4:b.1.2.1≤(lastH c).2.1
  ·rw [J6g q4,if_pos q4]
  rw [J6e q4,if_neg q4,hex,J6c]
  by_cases q5:c.2.2.1 < now - (lastH c).2.1
  ·rw [J6g q5,if_pos q5]
  rw [J6e q5,if_neg q5]
  by_cases q6:now < b.1.2.1
  ·rw [J6g q6,if_pos q6]
  rw [J6e q6,if_neg q6,wl]
  have en:=Jvy b.2.2.1 hset b.1 b1 b.2.1 b3 b2
  have so:=K43 c.2.1 c3 b.1 b1 b.2.1 b3 b2
  rw [show decide (allS b.2.2.1 * 2 < Jh0 b.2.2.1 b.1 b.2.1 * 3)=enS b.2.2.1 b.1 b.2.1 from rfl] at en
  rw [show decide (allS c.2.1 * 1 < Jh0 c.2.1 b.1 b.2.1 * 3)=soS c.2.1 b.1 b.2.1 from rfl] at so
  by_cases q7:b.1.1=(lastH c).1+1
  ·rw [J6g q7]
   cases q8:Ty.beq (.arr 32 (.int .u8)) b.1.2.2.2.1 (lastH c).2.2.2.2.1 with
   | false=>rw [if_pos ⟨q7,q8⟩]; rfl
   | true=>
    rw [if_neg (by rw [show eqH b.1.2.2.2.1 (lastH c).2.2.2.2.1=true from q8]; simp),Bool.not_true,J6j,en,J6c]
    cases q9:enS b.2.2.1 b.1 b.2.1 with
    | false=>rw [if_pos rfl]; rfl
    | true=>
     rw [if_neg (by simp),Bool.not_true,J6j,J90 q7,if_neg (fun h=>h.1 q7)]
     exact htail
  ·rw [J6e q7,if_neg (fun h=>q7 h.1),en,J6c]
   cases q9:enS b.2.2.1 b.1 b.2.1 with
   | false=>rw [if_pos rfl]; rfl
   | true=>
    rw [if_neg (by simp),Bool.not_true,J6j,Jaz q7,so,J6c]
    cases q10:soS c.2.1 b.1 b.2.1 with
    | false=>rw [if_pos ⟨q7,rfl⟩]; rfl
    | true=>
     rw [if_neg (by simp),Bool.not_true,J6j]
     exact htail
def newS (h:Hdr) (next:List Val) (p:Int):Int⊕(Int×Cli):=
 if J8d h=true∧Jar next=true∧eqH h.2.2.2.2.1 (setH next)=true∧(0≤p∧p≤1073741824) then .inr (0,([h],next,p,false,())) else .inl 1
theorem new_eq (h:Hdr) (next:List Val) (p:Int) (hk:Jt8 next) (hl:next.length≤1000000):J5c h next p=some (newS h next p):=by
 unfold J5c newS
 rw [Jcy,J6c]
 cases q1:J8d h with
 | false=>rw [if_neg (by simp)]; rfl
 | true=>
  rw [Bool.not_true,J6j,right_eq _ (by omega),J6c]
  cases q2:Jar next with
  | false=>rw [if_neg (by simp)]; rfl
  | true=>
   rw [Bool.not_true,J6j,J9f _ (Jmo q2 hk),J6c]
   cases q3:Ty.beq (.arr 32 (.int .u8)) h.2.2.2.2.1 (setH next) with
   | false=>rw [if_neg (by rw [show eqH h.2.2.2.2.1 (setH next)=false from q3]; simp)]; rfl
   | true=>
    rw [Bool.not_true,J6j]
    unfold J5n
    by_cases q4:0≤p
    ·rw [J6g q4,J6c]
     by_cases q5:p≤1073741824
     ·rw [decide_eq_true q5,Bool.not_true,J6j,Jes _ (by omega),if_pos ⟨rfl,rfl,q3,q4,q5⟩]
      rfl
     ·rw [decide_eq_false q5,if_neg (by omega)]; rfl
    ·rw [J6e q4,J6c,if_neg (by omega)]; rfl
theorem Ju4 (p:Nat→Int) {n:Nat} (hn:n≤4) (h:Hdr) (h1:1≤h.1) (h2:h.1≤16) {js:List Nat} (q1:js.Pairwise (· < ·)) (q2:∀ j ∈ js,j < n) (q3:js.length≤4):Jgu (J6i p n) h (sgJ h js)=js.map nm:=by
 unfold Jgu Jcb
 rw [if_pos (Jxt h q1 (fun j hj=>by have:=q2 j hj; omega) q3),List.filter_eq_self.2,← Jx7 h js]
 ·rfl
 ·intro x hx
  obtain ⟨j,hj,rfl⟩:=List.mem_map.1 hx
  exact Jzy _ (Jui p n hn) h h1 h2 (Jf6 p j) (List.mem_map_of_mem (List.mem_range.2 (q2 j hj))) (J9x j) rfl
theorem Jzu (g:Nat→Bool) (n:Nat):((List.range n).filter g).Pairwise (· < ·):=List.Pairwise.filter _ List.pairwise_lt_range
theorem Jw9 {g:Nat→Bool} {n j:Nat} (h:j ∈ (List.range n).filter g):j < n:=List.mem_range.1 (List.mem_filter.1 h).1
theorem Jlx (g:Nat→Bool) (n:Nat):((List.range n).filter g).length≤n:=by
 have:=List.length_filter_le g (List.range n)
 rwa [List.length_range] at this
theorem Jop (p:Nat→Int) {n:Nat} (hn:n≤4) (h:Hdr) (h1:1≤h.1) (h2:h.1≤16) (g:Nat→Bool):Jh0 (J6i p n) h (sgJ h ((List.range n).filter g))=pwJ p ((List.range n).filter g):=by
 have hl:=Jlx g n
 unfold Jh0
 rw [Ju4 p hn h h1 h2 (Jzu g n) (fun j hj=>Jw9 hj) (by omega)]
 refine Jmh p _ g n fun i hi=>?_
 show (((List.range n).filter g).map nm).contains (nm i)=g i
 rw [Jpo (fun j hj=>by have:=Jw9 hj; omega) (by omega),Bool.eq_iff_iff]
 simp only [List.contains_iff_mem,List.mem_filter,List.mem_range]
 exact ⟨fun x=>x.2,fun x=>⟨hi,x⟩⟩
theorem Jlw (n:Nat):(List.range n).filter (fun _=>true)=List.range n:=List.filter_eq_self.2 fun _ _=>rfl
theorem Jnd (p:Nat→Int) (n:Nat):allS (J6i p n)=pwJ p (List.range n):=by
 unfold allS
 rw [Jmh p (fun _=>true) (fun _=>true) n (fun _ _=>rfl),Jlw]
def PwOk (p:Nat→Int):Prop:=∀ i,1≤p i∧p i≤1000000
theorem K37 (ps:List Int):PwOk (pw ps):=fun i=>by have:=pw_b ps i; omega
theorem PwOk.s {p:Nat→Int} (h:PwOk p):∀ i,0≤p i∧p i≤2097152:=fun i=>by have:=h i; omega
theorem K36 {p:Nat→Int} (h:PwOk p):∀ js:List Nat,js≠[]→1≤pwJ p js
 | [],e=>absurd rfl e
 | j::js,_=>by
  have:=h j
  have:=pwJ_b p h.s js
  unfold pwJ at *
  rw [List.map_cons,List.sum_cons]; omega
theorem Ku {n:Nat} (h:1≤n):List.range n≠[]:=fun e=>by have:=congrArg List.length e; simp at this; omega
theorem Jc2 {p:Nat→Int} (hp:PwOk p) {n:Nat} (h1:1≤n) (hn:n≤4):Jar (J6i p n)=true:=by
 have hl:(J6i p n).length=n:=by simp [J6i]
 have hg:∀ i,i < n→(J6i p n).getD i zVal=Jf6 p i:=fun i hi=>J7x _ _ hi
 have h2:∀ i,i < 4→nm i≠[]∧(nm i).length≤16:=by decide
 unfold Jar
 rw [hl]
 simp only [Bool.and_eq_true,decide_eq_true_eq]
 refine ⟨List.all_eq_true.2 fun i hi=>?_,by omega,by omega⟩
 have hi:=List.mem_range.1 hi
 obtain ⟨a,b⟩:=h2 i (by omega)
 have:=hp i
 unfold okAt mayS
 rw [hg i hi]
 simp only [Bool.and_eq_true,Bool.or_eq_true,Bool.not_eq_true',decide_eq_true_eq,decide_eq_false_iff_not,beq_iff_eq]
 refine ⟨⟨a,?_,this.1,?_⟩,?_⟩
 ·show ((nm i).length:Int)≤16; omega
 ·show p i≤1048576; omega
 ·by_cases c:i=0
  ·exact .inl c
  ·right
   rw [hg (i - 1) (by omega)]
   exact K1d (i - 1) (by omega) i (by omega) (by omega)
theorem Jjd (p:Nat→Int) (n:Nat):Jt8 (J6i p n):=by
 intro v hv
 obtain ⟨i,hi,rfl⟩:=List.mem_map.1 hv
 exact J80 _
theorem Joy {p:Nat→Int} (hp:PwOk p) {n:Nat} (hn:n≤4):Jc7 (J6i p n):=Jqr p n hn hp.s
noncomputable def blF (n:Nat) (S:List Val) (f:Nat→Int):Nat→List Block
 | 0=>[]
 | k+1=>blF n S f k++[blkS n S (blF n S f k) (f k)]
noncomputable def hF (n:Nat) (S:List Val) (f:Nat→Int) (j:Nat):Hdr:=hdS S (blF n S f j) (f j)
def Rise (f:Nat→Int):Prop:=(∀ i,i < 16→0≤f i∧f i≤1000000000)∧∀ i,i+1 < 16→f i < f (i+1)
theorem Rise.lt {f:Nat→Int} (h:Rise f) {i:Nat}:∀ {j:Nat},i < j→j < 16→f i < f j
 | j+1,hij,hj=>by
  have:=h.2 j hj
  rcases Nat.lt_or_ge i j with c | c
  ·have:=h.lt c (by omega); omega
  ·have:i=j:=by omega
   subst this; omega
def Knows (S:List Val) (P:Int) (h:Hdr) (c:Cli):Prop:=1≤c.1.length∧c.1.length≤1000∧lastH c=h∧c.2.1=S∧c.2.2.1=P∧c.2.2.2.1=false
theorem Jkh (l:List Hdr) (h:Hdr) (x:List Val×Int×Bool×Unit):lastH (l++[h],x)=h:=by
 unfold lastH
 simp only
 rw [List.length_append,List.getD_eq_getElem?_getD,List.getElem?_append_right (by simp)]
 simp
theorem Jwu (l:List Hdr) (h:Hdr) (x:List Val×Int×Bool×Unit) (hl:1≤l.length):lastH (cut6 (l++[h]),x)=h:=by
 unfold cut6
 split
 ·rw [List.drop_append_of_le_length hl]
  exact Jkh _ _ _
 ·exact Jkh _ _ _
noncomputable def hdR (r:List UInt8) (S:List Val) (B:List Block) (t:Int):Hdr:=
 if B.length=0 then (1,t,r,setH S,setH S,List.replicate 32 0,())
 else ((B.length:Int)+1,t,r,setH (lastB B).2.2.2.1,setH S,sha (72::Jfw (lastB B).1),())
theorem Jtt {r:List UInt8} (hr32:r.length=32) (S:List Val) (B:List Block) (t:Int):J8q (hdR r S B t):=by
 unfold hdR
 split
 ·exact ⟨hr32,J8m _,J8m _,by simp⟩
 ·exact ⟨hr32,J8m _,J8m _,J81 _⟩
theorem hdR_1 (r:List UInt8) (S:List Val) (B:List Block) (t:Int):(hdR r S B t).1=(B.length:Int)+1:=by
 unfold hdR; split
 ·show (1:Int)=_; omega
 ·rfl
theorem hdR_t (r:List UInt8) (S:List Val) (B:List Block) (t:Int):(hdR r S B t).2.1=t:=by unfold hdR; split <;> rfl
theorem K3 (r:List UInt8) (S:List Val) (B:List Block) (t:Int):(hdR r S B t).2.2.2.2.1=setH S:=by unfold hdR; split <;> rfl
theorem K4 (r:List UInt8) (S:List Val) (B:List Block) (t:Int):(hdR r S B t).2.2.2.1=setH (nowS S B):=by unfold hdR nowS; split <;> rfl
theorem Jwl {r:List UInt8} {S:List Val} {B:List Block} {t:Int} (hb:B.length < 16) (h1:0≤t) (h2:t≤1073741824):J8d (hdR r S B t)=true:=by
 rw [Jc1,hdR_1,hdR_t]; omega
noncomputable def blkR (n:Nat) (r:List UInt8) (S:List Val) (B:List Block) (t:Int):Block:=(hdR r S B t,sgJ (hdR r S B t) (List.range n),nowS S B,S,())
noncomputable def blG (n:Nat) (r:Nat→List UInt8) (S:Nat→List Val) (f:Nat→Int):Nat→List Block
 | 0=>[]
 | k+1=>blG n r S f k++[blkR n (r k) (S k) (blG n r S f k) (f k)]
noncomputable def hG (n:Nat) (r:Nat→List UInt8) (S:Nat→List Val) (f:Nat→Int) (j:Nat):Hdr:=hdR (r j) (S j) (blG n r S f j) (f j)
def preS (S:Nat→List Val) (j:Nat):List Val:=if j=0 then S 0 else S (j - 1)
noncomputable def genB (n:Nat) (r:Nat→List UInt8) (S:Nat→List Val) (f:Nat→Int) (j:Nat):Block:=(hG n r S f j,sgJ (hG n r S f j) (List.range n),preS S j,S j,())
theorem Jbm (n:Nat) (r:Nat→List UInt8) (S:Nat→List Val) (f:Nat→Int):∀ k,(blG n r S f k).length=k
 | 0=>rfl
 | k+1=>by rw [blG,List.length_append,Jbm n r S f k]; rfl
theorem nowG (n:Nat) (r:Nat→List UInt8) (S:Nat→List Val) (f:Nat→Int):∀ k,nowS (S k) (blG n r S f k)=preS S k
 | 0=>rfl
 | k+1=>by
  unfold nowS preS
  rw [Jbm,if_neg (by omega),if_neg (by omega),blG,Jtz]
  rfl
theorem Jvb (n:Nat) (r:Nat→List UInt8) (S:Nat→List Val) (f:Nat→Int):∀ {k j:Nat},j < k→(blG n r S f k).getD j zBlk=genB n r S f j
 | k+1,j,h=>by
  rw [blG]
  rcases Nat.lt_or_ge j k with c | c
  ·rw [List.getD_eq_getElem?_getD,List.getElem?_append_left (by rw [Jbm]; exact c),← List.getD_eq_getElem?_getD]
   exact Jvb n r S f c
  ·have:j=k:=by omega
   subst this
   rw [List.getD_eq_getElem?_getD,List.getElem?_append_right (by rw [Jbm]; omega),Jbm]
   simp only [Nat.sub_self,List.getElem?_cons_zero,Option.getD_some]
   unfold blkR
   rw [nowG]
   rfl
theorem Jng (n:Nat) {r r':Nat→List UInt8} {S S':Nat→List Val} {f f':Nat→Int}:∀ k,(∀ j,j < k→r j=r' j∧S j=S' j∧f j=f' j)→blG n r S f k=blG n r' S' f' k
 | 0,_=>rfl
 | k+1,h=>by
  obtain ⟨a,b,c⟩:=h k (Nat.lt_succ_self k)
  rw [blG,blG,Jng n k (fun j hj=>h j (by omega)),a,b,c]
theorem hG_1 (n:Nat) (r:Nat→List UInt8) (S:Nat→List Val) (f:Nat→Int) (j:Nat):(hG n r S f j).1=(j:Int)+1:=by unfold hG; rw [hdR_1,Jbm]
theorem hG_t (n:Nat) (r:Nat→List UInt8) (S:Nat→List Val) (f:Nat→Int) (j:Nat):(hG n r S f j).2.1=f j:=hdR_t _ _ _ _
theorem K2p (n:Nat) (r:Nat→List UInt8) (S:Nat→List Val) (f:Nat→Int) (j:Nat):(hG n r S f j).2.2.1=r j:=by unfold hG hdR; split <;> rfl
theorem Jq5 (n:Nat) (r:Nat→List UInt8) (S:Nat→List Val) (f:Nat→Int) (j:Nat):(hG n r S f j).2.2.2.2.1=setH (S j):=K3 _ _ _ _
theorem Jwi (n:Nat) (r:Nat→List UInt8) (S:Nat→List Val) (f:Nat→Int) (j:Nat):(hG n r S f j).2.2.2.1=setH (preS S j):=by unfold hG; rw [K4,nowG]
theorem Jo0 (n:Nat) {r:Nat→List UInt8} (S:Nat→List Val) (f:Nat→Int) {j:Nat} (hr:(r j).length=32):J8q (hG n r S f j):=Jtt hr _ _ _
theorem Jlz {n:Nat} {r:Nat→List UInt8} {S:Nat→List Val} {f:Nat→Int} {j:Nat} (hj:j < 16) (h1:0≤f j) (h2:f j≤1073741824):J8d (hG n r S f j)=true:=Jwl (by rw [Jbm]; exact hj) h1 h2
theorem Kc (n:Nat) (r:Nat→List UInt8) (S:Nat→List Val) (f:Nat→Int) (k:Nat):lastB (blG n r S f (k+1))=genB n r S f k:=by
 unfold lastB
 rw [Jbm]
 exact Jvb n r S f (by omega)
theorem preR (P:Nat→Nat→Int) (n j:Nat):preS (fun k=>J6i (P k) n) j=J6i (if j=0 then P 0 else P (j - 1)) n:=by
 unfold preS; split <;> rfl
def Jhl (m:Nat) (f:Nat→Int):Prop:=(∀ i,i < m→0≤f i∧f i≤1000000000)∧∀ i,i+1 < m→f i < f (i+1)
theorem Jhl.lt {m:Nat} {f:Nat→Int} (h:Jhl m f) {i:Nat}:∀ {j:Nat},i < j→j < m→f i < f j
 | j+1,hij,hj=>by
  have:=h.2 j hj
  rcases Nat.lt_or_ge i j with c | c
  ·have:=h.lt c (by omega); omega
  ·have:i=j:=by omega
   subst this; omega
noncomputable def sgB (n:Nat) (r:Nat→List UInt8) (P:Nat→Nat→Int) (f:Nat→Int) (j:Nat) (g:Nat→Bool):Block:=(hG n r (fun k=>J6i (P k) n) f j,sgJ (hG n r (fun k=>J6i (P k) n) f j) ((List.range n).filter g),preS (fun k=>J6i (P k) n) j,J6i (P j) n,())
def pB (P:Nat→Nat→Int) (j:Nat):Nat→Int:=if j=0 then P 0 else P (j - 1)
theorem pB_ok {P:Nat→Nat→Int} (hP:∀ j,PwOk (P j)) (j:Nat):PwOk (pB P j):=by
 unfold pB; split <;> exact hP _
theorem sgB_ok {n:Nat} (hn:n≤4) {r:Nat→List UInt8} (P:Nat→Nat→Int) (f:Nat→Int) {j:Nat} (hj:j < 16) (hr:(r j).length=32) (g:Nat→Bool):K1s (sgB n r P f j g):=by
 have hl:∀ p,(J6i p n).length=n:=fun p=>by simp [J6i]
 have h1:=hG_1 n r (fun k=>J6i (P k) n) f j
 refine ⟨Jo0 n _ f hr,sgJ_ok _ (by omega) (by omega) _,?_,?_,Jjd _ n,?_,?_⟩
 ·show (sgJ _ _).length≤1000000
  have:=Jlx g n
  rw [Jgh]; omega
 ·show Jt8 (preS (fun k=>J6i (P k) n) j)
  rw [preR]; exact Jjd _ n
 ·show (preS (fun k=>J6i (P k) n) j).length≤1000000
  rw [preR,hl]; omega
 ·show (J6i (P j) n).length≤1000000
  rw [hl]; omega
theorem Jyr {n:Nat} (h1:1≤n) (hn:n≤4) {r:Nat→List UInt8} {P:Nat→Nat→Int} (hP:∀ j,PwOk (P j)) {f:Nat→Int} {j:Nat} (hj:j < 16) (q1:0≤f j) (q2:f j≤1073741824) (g:Nat→Bool):Jjp (sgB n r P f j g)=true:=by
 have hfl:=Jlx g n
 unfold Jjp sgB
 dsimp only
 rw [Jlz hj q1 q2,preR,Jc2 (show PwOk (if j=0 then P 0 else P (j - 1)) from pB_ok hP j) h1 hn,Jc2 (hP j) h1 hn,Jwi,preR,Jq5]
 show (true && (true && (true && (decide ((sgJ _ _).length≤5) && (eqH (setH _) (setH _) && eqH (setH _) (setH _))))))=true
 rw [decide_eq_true (by rw [Jgh]; omega),show ∀ s,eqH (setH s) (setH s)=true from fun s=>Jeo _,show ∀ s,eqH (setH s) (setH s)=true from fun s=>Jeo _]
 rfl
theorem K4c {n:Nat} (h1:1≤n) (hn:n≤4) {r:Nat→List UInt8} {P:Nat→Nat→Int} (hP:∀ j,PwOk (P j)) {m:Nat} (hm:m≤16) {f:Nat→Int} (hf:Jhl m f) {i j:Nat} (hij:i < j) (hj:j < m) {T:Int} {c:Cli}
  (hc:Knows (J6i (P i) n) T (hG n r (fun k=>J6i (P k) n) f i) c) (now:Int) (g:Nat→Bool) (q2:¬ T < now - f i) (q3:¬ now < f j) :
  updS (sgB n r P f j g) now c=if ¬ pwJ (pB P j) (List.range n) * 2 < pwJ (pB P j) ((List.range n).filter g) * 3 then (9,c) else if j≠i+1∧¬ pwJ (P i) (List.range n) * 1 < pwJ (P i) ((List.range n).filter g) * 3 then (9,c) else (0,(cut6 (c.1++[hG n r (fun k=>J6i (P k) n) f j]),J6i (P j) n,T,false,())):=by
 obtain ⟨c1,c2,c3,c4,c5,c6⟩:=hc
 have fj:=hf.1 j hj
 have fi:=hf.1 i (by omega)
 have hlt:=hf.lt hij hj
 have e1:=hG_1 n r (fun k=>J6i (P k) n) f j
 have e2:=hG_1 n r (fun k=>J6i (P k) n) f i
 have ea:∀ p,enS (J6i p n) (hG n r (fun k=>J6i (P k) n) f j) (sgJ (hG n r (fun k=>J6i (P k) n) f j) ((List.range n).filter g))=decide (pwJ p (List.range n) * 2 < pwJ p ((List.range n).filter g) * 3):=fun p=>by
  unfold enS
  rw [Jop p hn _ (by omega) (by omega),Jnd]
 have es:∀ p,soS (J6i p n) (hG n r (fun k=>J6i (P k) n) f j) (sgJ (hG n r (fun k=>J6i (P k) n) f j) ((List.range n).filter g))=decide (pwJ p (List.range n) * 1 < pwJ p ((List.range n).filter g) * 3):=fun p=>by
  unfold soS
  rw [Jop p hn _ (by omega) (by omega),Jnd]
 unfold updS
 rw [if_neg (by rw [c6]; simp),Jyr h1 hn hP (by omega) fj.1 (by omega) g,if_neg (by simp),c3,e2,hG_t,Jq5]
 show (if (hG n r (fun k=>J6i (P k) n) f j).1≤_ then _ else if (hG n r (fun k=>J6i (P k) n) f j).2.1≤_ then _ else _)=_
 rw [e1,hG_t,if_neg (by omega),if_neg (by omega),c5,if_neg q2]
 show (if now < (hG n r (fun k=>J6i (P k) n) f j).2.1 then _ else if (hG n r (fun k=>J6i (P k) n) f j).1=_∧eqH (hG n r (fun k=>J6i (P k) n) f j).2.2.2.1 _=false then _ else if enS (preS (fun k=>J6i (P k) n) j) (hG n r (fun k=>J6i (P k) n) f j) (sgJ (hG n r (fun k=>J6i (P k) n) f j) ((List.range n).filter g))=false then _ else if (hG n r (fun k=>J6i (P k) n) f j).1≠_∧soS c.2.1 (hG n r (fun k=>J6i (P k) n) f j) (sgJ (hG n r (fun k=>J6i (P k) n) f j) ((List.range n).filter g))=false then _ else (0,(cut6 (c.1++[hG n r (fun k=>J6i (P k) n) f j]),J6i (P j) n,T,c.2.2.2.1,())))=_
 rw [hG_t,if_neg q3,Jwi,e1,preR,ea,c4,es,c6]
 have hv:¬ ((j:Int)+1=(i:Int)+1+1∧eqH (setH (J6i (if j=0 then P 0 else P (j - 1)) n)) (setH (J6i (P i) n))=false):=by
  rintro ⟨a,b⟩
  rw [if_neg (by omega),show j - 1=i from by omega,show eqH (setH (J6i (P i) n)) (setH (J6i (P i) n))=true from Jeo _] at b
  cases b
 rw [if_neg hv]
 show (if decide (pwJ (pB P j) (List.range n) * 2 < pwJ (pB P j) ((List.range n).filter g) * 3)=false then _ else _)=_
 by_cases k1:pwJ (pB P j) (List.range n) * 2 < pwJ (pB P j) ((List.range n).filter g) * 3
 ·have n1:¬ ¬ pwJ (pB P j) (List.range n) * 2 < pwJ (pB P j) ((List.range n).filter g) * 3:=fun q=>q k1
  rw [decide_eq_true k1,if_neg (show ¬ (true=false) by simp),if_neg n1]
  by_cases k2:j≠i+1∧¬ pwJ (P i) (List.range n) * 1 < pwJ (P i) ((List.range n).filter g) * 3
  ·have m2:(j:Int)+1≠(i:Int)+1+1∧decide (pwJ (P i) (List.range n) * 1 < pwJ (P i) ((List.range n).filter g) * 3)=false:=⟨by omega,decide_eq_false k2.2⟩
   rw [if_pos k2,if_pos m2]
  ·have m2:¬ ((j:Int)+1≠(i:Int)+1+1∧decide (pwJ (P i) (List.range n) * 1 < pwJ (P i) ((List.range n).filter g) * 3)=false):=by
    rintro ⟨a,b⟩
    exact k2 ⟨by omega,of_decide_eq_false b⟩
   rw [if_neg k2,if_neg m2]
 ·rw [decide_eq_false k1,if_pos (show (false=false) from rfl),if_pos k1]
theorem K0x {n:Nat} (hn:n≤4) {r:Nat→List UInt8} {P:Nat→Nat→Int} (hP:∀ j,PwOk (P j)) {m:Nat} (hm:m≤16) {f:Nat→Int} (hf:Jhl m f) {i:Nat} (hi:i < m) {T:Int} {c:Cli} (hc:Knows (J6i (P i) n) T (hG n r (fun k=>J6i (P k) n) f i) c):K1t c:=by
 obtain ⟨c1,c2,c3,c4,_,_⟩:=hc
 have:=hf.1 i hi
 refine ⟨c1,by omega,by rw [c4]; exact Joy (hP i) hn,?_,?_⟩
 ·rw [c3,hG_1]; omega
 ·rw [c3,hG_t]; omega
theorem K2y {n:Nat} (h1:1≤n) (hn:n≤4) {r:Nat→List UInt8} {P:Nat→Nat→Int} (hP:∀ j,PwOk (P j)) {m:Nat} (hm:m≤16) {f:Nat→Int} (hf:Jhl m f) {T:Int} (hT:0≤T∧T≤1073741824) {j:Nat} (hj:j < m) :
  J5c (hG n r (fun k=>J6i (P k) n) f j) (J6i (P j) n) T=some (.inr (0,([hG n r (fun k=>J6i (P k) n) f j],J6i (P j) n,T,false,()))):=by
 have hl:(J6i (P j) n).length=n:=by simp [J6i]
 have fj:=hf.1 j hj
 rw [new_eq _ _ _ (Jjd _ n) (by omega)]
 unfold newS
 rw [if_pos ⟨Jlz (by omega) fj.1 (by omega),Jc2 (hP j) h1 hn,by rw [Jq5]; exact Jeo _,hT.1,hT.2⟩]
theorem K2m (n:Nat) (r:Nat→List UInt8) (P:Nat→Nat→Int) (f:Nat→Int) (j:Nat):genB n r (fun k=>J6i (P k) n) f j=sgB n r P f j (fun _=>true):=by
 unfold genB sgB
 rw [Jlw]
def Jea {α:Type} (l:List α):List α:=l.drop (l.length - 6)
theorem Jf3 {α:Type} (l:List α):(Jea l).length=min l.length 6:=by unfold Jea; rw [List.length_drop]; omega
theorem Jki {α:Type} (l:List α) (x:α):Jea (l++[x])=if 6 < (Jea l).length+1 then (Jea l++[x]).drop 1 else Jea l++[x]:=by
 rw [Jf3]
 unfold Jea
 rw [List.length_append,List.length_singleton]
 split
 ·rw [List.drop_append_of_le_length (by omega),List.drop_append_of_le_length (by rw [List.length_drop]; omega),List.drop_drop]
  congr 2; omega
 ·rw [show l.length+1 - 6=0 from by omega,show l.length - 6=0 from by omega]; rfl
noncomputable def rR (R:List (List Pr)) (j:Nat):List UInt8:=J9m (R.getD j [])
theorem K1k (R:List (List Pr)) (j:Nat):(rR R j).length=32:=J81 _
theorem Jxp (R:List (List Pr)) (l:List Pr) {j:Nat} (h:j < R.length):rR (R++[l]) j=rR R j:=by
 unfold rR; rw [List.getD_eq_getElem?_getD,List.getD_eq_getElem?_getD,List.getElem?_append_left h]
theorem K39 (R:List (List Pr)) (l:List Pr):rR (R++[l]) R.length=J9m l:=by
 unfold rR; rw [List.getD_eq_getElem?_getD,List.getElem?_append_right (Nat.le_refl _)]; simp
section
variable (n : Nat) (p : Nat → Int) (f : Nat → Int)
noncomputable def BL (R:List (List Pr)):List Block:=blG n (rR R) (fun _=>J6i p n) f R.length
noncomputable def hL (R:List (List Pr)) (j:Nat):Hdr:=hG n (rR R) (fun _=>J6i p n) f j
noncomputable def gL (R:List (List Pr)) (j:Nat):Block:=genB n (rR R) (fun _=>J6i p n) f j
theorem Juu (R:List (List Pr)):(BL n p f R).length=R.length:=Jbm _ _ _ _ _
theorem BL_cg (R:List (List Pr)) (l:List Pr) {k:Nat} (h:k≤R.length):blG n (rR (R++[l])) (fun _=>J6i p n) f k=blG n (rR R) (fun _=>J6i p n) f k:=
 Jng n k fun j hj=>⟨Jxp R l (by omega),rfl,rfl⟩
theorem K1r (R:List (List Pr)) (l:List Pr):BL n p f (R++[l])=BL n p f R++[blkR n (J9m l) (J6i p n) (BL n p f R) (f R.length)]:=by
 unfold BL
 rw [List.length_append,List.length_singleton]
 show blG n (rR (R++[l])) _ f R.length++[_]=_
 rw [BL_cg n p f R l (Nat.le_refl _),K39]
theorem K2q (R:List (List Pr)) (l:List Pr) {j:Nat} (h:j < R.length):hL n p f (R++[l]) j=hL n p f R j:=by
 unfold hL hG; rw [BL_cg n p f R l (by omega),Jxp R l h]
theorem BL_at (R:List (List Pr)) {j:Nat} (h:j < R.length):(BL n p f R).getD j zBlk=gL n p f R j:=Jvb _ _ _ _ h
end
theorem Jbi (n:Nat):(J6k n).length=n:=J95 _ _
theorem Jgb (n:Nat):(J6n n).length=n:=J95 _ _
theorem Jac (p:Nat→Int) (n:Nat):(J6i p n).length=n:=J95 _ _
theorem Jso (h:Hdr) (hh:J8q h) (h1:1≤h.1) (h2:h.1≤16) (nm:List UInt8) (i:Nat):J5l (J92 (J9x i)) h nm (J9x i)=some (sgS h nm (J9x i)):=by
 unfold J5l
 rw [Jym h hh,J6c,By_eq _ (by rw [J8i]; omega) (Je9 _) _ _ (Jfj i) _ h1 h2 (by rw [Jjm]; omega),J6c]
 rfl
theorem Jfz (p:Nat→Int) {n:Nat} (hn:n≤4):Ja (J6i p n)=some (J6i p n):=Jes _ (by rw [Jac]; omega)
theorem Jvj (l:List Block) (h:l.length≤1000):J0y l=some l:=by unfold J0y; rw [J6d (by omega)]
theorem K5 (p:Nat→Int) (hp:PwOk p) {n:Nat} (h1:1≤n) (hn:n≤4):J21 (J6i p n) (J6k n)=some ((),J6k n,J6n n,J6i p n,([],0,[],())):=by
 have e1:Jar (J6i p n)=true:=Jc2 hp h1 hn
 have e2:J21_1 (J6k n) (n:Int) 0 () (J6k n) [] (J6i p n) ([],0,[],())=some ((),J6k n,J6n n,J6i p n,([],0,[],())):=by
  unfold J21_1
  have:=J6o (step:=fun (s:Int×List (List (List UInt8)))=>J21_1_step (J6k n) (n:Int) s.1 () (J6k n) s.2 (J6i p n) ([],0,[],())) (fun i (_:Unit)=>((i:Int),J6n i)) (fun _ _=>()) (fun _=>((),J6k n,J6n n,J6i p n,([],0,[],()))) n (fun _ _=>True)
   (fun i w hi _=>⟨by
    show J21_1_step (J6k n) (n:Int) (i:Int) () (J6k n) (J6n i) (J6i p n) ([],0,[],())=_
    unfold J21_1_step
    have g1:(J6k n).getD i (List.replicate 32 (0:UInt8))=J9x i:=J7x _ _ hi
    rw [J6g (by omega),J6d (by rw [Jbi]; omega),Int.toNat_natCast,g1,K1u _ (Jfj i),J6c,J6d (by rw [Jgb,List.length_singleton]; omega),J6h (by omega) (by omega)]
    rw [show J6n (i+1)=J6n i++[J92 (J9x i)] from Jhc _ _]
    rfl,trivial⟩) (fun w _=>by
    show J21_1_step (J6k n) (n:Int) (n:Int) () (J6k n) (J6n n) (J6i p n) ([],0,[],())=_
    unfold J21_1_step
    rw [J6e (by omega)]) n 0 () (by omega) trivial
  exact this
 unfold J21
 rw [right_eq _ (by rw [Jac]; omega),J6c,e1,Jac,Jbi]
 rw [show (!true)=false from rfl,J6j,J90 rfl]
 rw [show J32 (J6k n)=some (J6k n) from by unfold J32; rw [J6d (by rw [Jbi]; omega)],J6c,Jfz p hn,J6c]
 show andThen (J21_1 (J6k n) (n:Int) 0 () (J6k n) [] (J6i p n) ([],0,[],())) _=_
 rw [e2]
 rfl
theorem hcA (n:Nat) (hn:n≤4) (p:Nat→Int) (h:Hdr) (hh:J8q h) (h1:1≤h.1) (h2:h.1≤16) (st:Stt) (g:Hdr) (a b:List Val) :
  Js_1 (n:Int) 0 () (J6k n) (J6n n) (J6i p n) st h g () [] a b=some ((),J6k n,J6n n,J6i p n,st,g,(),sgJ h (List.range n),a,b):=by
 unfold Js_1
 have:=J6o (step:=fun (s:Int×List J7d)=>Js_1_step (n:Int) s.1 () (J6k n) (J6n n) (J6i p n) st h g () s.2 a b) (fun i (_:Unit)=>((i:Int),sgJ h (List.range i))) (fun _ _=>()) (fun _=>((),J6k n,J6n n,J6i p n,st,g,(),sgJ h (List.range n),a,b)) n (fun _ _=>True)
  (fun i w hi _=>⟨by
   show Js_1_step (n:Int) (i:Int) () (J6k n) (J6n n) (J6i p n) st h g () (sgJ h (List.range i)) a b=_
   unfold Js_1_step
   have g1:(J6k n).getD i (List.replicate 32 (0:UInt8))=J9x i:=J7x _ _ hi
   have g2:(J6n n).getD i []=J92 (J9x i):=J7x _ _ hi
   have g3:((J6i p n).getD i zVal).1=nm i:=by rw [show (J6i p n).getD i zVal=Jf6 p i from J7x _ _ hi]; rfl
   rw [J6g (by omega),J6d (by rw [Jac]; omega),J6d (by rw [Jgb]; omega),J6d (by rw [Jbi]; omega),Int.toNat_natCast,g1,g2]
   rw [show ((([]:List UInt8),(0:Int),(List.replicate 32 (0:UInt8)),()):Val)=zVal from rfl,g3,Jso h hh h1 h2,J6c,J6d (by rw [Jgh,List.length_range]; simp only [List.length_cons,List.length_nil]; omega),J6h (n:=(i:Int)+1) (by omega) (by omega),Jmw]
   rfl,trivial⟩) (fun w _=>by
   show Js_1_step (n:Int) (n:Int) () (J6k n) (J6n n) (J6i p n) st h g () (sgJ h (List.range n)) a b=_
   unfold Js_1_step
   rw [J6e (by omega)]) n 0 () (by omega) trivial
 exact this
theorem hcB (n:Nat) (hn:n≤4) (p:Nat→Int) (h:Hdr) (hh:J8q h) (h1:1≤h.1) (h2:h.1≤16) (st:Stt) (B:List Block) (g:Hdr) (a b:List Val) :
  Jd_1 (J6i p n) (n:Int) 0 () (J6k n) (J6n n) (J6i p n) st B h g () [] a b=some ((),J6k n,J6n n,J6i p n,st,B,g,(),sgJ h (List.range n),a,b):=by
 unfold Jd_1
 have:=J6o (step:=fun (s:Int×List J7d)=>Jd_1_step (J6i p n) (n:Int) s.1 () (J6k n) (J6n n) (J6i p n) st B h g () s.2 a b) (fun i (_:Unit)=>((i:Int),sgJ h (List.range i))) (fun _ _=>()) (fun _=>((),J6k n,J6n n,J6i p n,st,B,g,(),sgJ h (List.range n),a,b)) n (fun _ _=>True)
  (fun i w hi _=>⟨by
   show Jd_1_step (J6i p n) (n:Int) (i:Int) () (J6k n) (J6n n) (J6i p n) st B h g () (sgJ h (List.range i)) a b=_
   unfold Jd_1_step
   have g1:(J6k n).getD i (List.replicate 32 (0:UInt8))=J9x i:=J7x _ _ hi
   have g2:(J6n n).getD i []=J92 (J9x i):=J7x _ _ hi
   have g3:((J6i p n).getD i zVal).1=nm i:=by rw [show (J6i p n).getD i zVal=Jf6 p i from J7x _ _ hi]; rfl
   rw [J6g (by omega),J6d (by rw [Jac]; omega),J6d (by rw [Jgb]; omega),J6d (by rw [Jbi]; omega),Int.toNat_natCast,g1,g2]
   rw [show ((([]:List UInt8),(0:Int),(List.replicate 32 (0:UInt8)),()):Val)=zVal from rfl,g3,Jso h hh h1 h2,J6c,J6d (by rw [Jgh,List.length_range]; simp only [List.length_cons,List.length_nil]; omega),J6h (n:=(i:Int)+1) (by omega) (by omega),Jmw]
   rfl,trivial⟩) (fun w _=>by
   show Jd_1_step (J6i p n) (n:Int) (n:Int) () (J6k n) (J6n n) (J6i p n) st B h g () (sgJ h (List.range n)) a b=_
   unfold Jd_1_step
   rw [J6e (by omega)]) n 0 () (by omega) trivial
 exact this
def stR (now:List Pr) (R:List (List Pr)):Stt:=(now,(R.length:Int),Jea R,())
theorem Jwv {α:Type} {l:List α} {x:α} (h:x ∈ Jea l):x ∈ l:=List.mem_of_mem_drop h
theorem Jkz {now:List Pr} {R:List (List Pr)} (hn:RowB now) (hR:∀ l ∈ R,RowB l) (hl:R.length≤16):StOk (stR now R):=by
 refine ⟨hn,by show 0≤(R.length:Int); omega,by show (R.length:Int)≤16; omega,?_,fun l hl=>hR l (Jwv hl)⟩
 show ((Jea R).length:Int)=min (R.length:Int) 6
 rw [Jf3]; omega
theorem Jum {now:List Pr} {R:List (List Pr)} (hl:R.length < 16):Jg0 (stR now R)=((R.length:Int)+1,stR now (R++[now])):=by
 unfold Jg0
 rw [if_neg (show ¬ (stR now R).2.1=16 by show ¬ (R.length:Int)=16; omega)]
 unfold stR Jo5
 dsimp only
 rw [Jki,List.length_append,List.length_singleton]
 rfl
theorem stR_at {now:List Pr} {R:List (List Pr)} (h:Int):atS (stR now R) h=if 1≤h∧(R.length:Int) - 6 < h∧h≤(R.length:Int) then (R.getD (h - 1).toNat [],true) else ([],false):=by
 have hk:=Jf3 R
 have hlow:lowS (stR now R)=(R.length:Int) - ((Jea R).length:Int)+1:=rfl
 unfold atS
 rw [hlow,show (stR now R).2.1=(R.length:Int) from rfl,hk]
 by_cases c:1≤h∧(R.length:Int) - 6 < h∧h≤(R.length:Int)
 ·rw [if_pos c,if_neg (by omega)]
  congr 1
  show (Jea R).getD _ []=_
  unfold Jea
  rw [List.getD_eq_getElem?_getD,List.getD_eq_getElem?_getD,List.getElem?_drop]
  congr 2; omega
 ·rw [if_neg c,if_pos (by omega)]
end Go.Ax.V
