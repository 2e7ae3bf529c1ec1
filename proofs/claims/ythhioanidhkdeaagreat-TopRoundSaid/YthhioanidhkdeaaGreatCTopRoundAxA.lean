/-
  A semantics by value over the model: data, calls, code (part A).
-/
import Derived.Tactics
import Derived.Laws.Sem
import Derived.Laws.World
import Derived.LoopN
import Derived.Orders
import Derived.Below
import Derived.KernelRfl
import Derived.Laws.BitsAllLaws
import Derived.Laws.Strings
import Derived.Laws.StructEq
import Derived.Laws.BytesString
import Derived.Laws.Append
import Derived.Laws.MakeOwn
set_option autoImplicit true
set_option relaxedAutoImplicit true
set_option linter.unusedVariables false
set_option linter.unusedSimpArgs false
namespace Go.Ax
inductive Ty where
 |int (k:IntKind)|bool|str|flt|cplx
 |ptr|mp|fn
 |arr (n:Nat) (e:Ty)|slice (e:Ty)
 |unit|fld (a r:Ty)
 deriving DecidableEq,Inhabited
@[reducible] def IK:IntKind->Type
 | .u8=>UInt8
 | .u32=>UInt32
 | .u64=>UInt64
 |_=>Int
@[reducible] def IK.toInt:(k:IntKind)->IK k->Int
 | .u8,x=>(UInt8.toNat x:Nat)
 | .u32,x=>(UInt32.toNat x:Nat)
 | .u64,x=>(UInt64.toNat x:Nat)
 | .i8,x=>x
 | .i16,x=>x
 | .i32,x=>x
 | .i64,x=>x
 | .u16,x=>x
@[reducible] def IK.ofInt:(k:IntKind)->Int->IK k
 | .u8,n=>UInt8.ofNat n.toNat
 | .u32,n=>UInt32.ofNat n.toNat
 | .u64,n=>UInt64.ofNat n.toNat
 | .i8,x=>x
 | .i16,x=>x
 | .i32,x=>x
 | .i64,x=>x
 | .u16,x=>x
@[reducible] def Ty.den:Ty->Type
 | .int k=>IK k
 | .bool=>Bool
 | .str=>List UInt8
 | .flt=>Int
 | .cplx=>Int×Int
 | .ptr=>Unit
 | .mp=>Unit
 | .fn=>Unit
 | .arr _ e=>List e.den
 | .slice e=>List e.den
 | .unit=>Unit
 | .fld a r=>a.den×r.den
@[reducible] def IK.zero:(k:IntKind)->IK k
 | .u8=>(0:UInt8)
 | .u32=>(0:UInt32)
 | .u64=>(0:UInt64)
 | .i8=>(0:Int)
 | .i16=>(0:Int)
 | .i32=>(0:Int)
 | .i64=>(0:Int)
 | .u16=>(0:Int)
def Ty.zero:(t:Ty)->t.den
 | .int k=>IK.zero k
 | .bool=>false
 | .str=>[]
 | .flt=>(0:Int)
 | .cplx=>((0:Int),(0:Int))
 | .ptr=>()
 | .mp=>()
 | .fn=>()
 | .arr n e=>List.replicate n e.zero
 | .slice _=>[]
 | .unit=>()
 | .fld a r=>(a.zero,r.zero)
def Ty.size:Ty->Nat
 | .arr n e=>n*e.size
 | .unit=>0
 | .fld a r=>a.size+r.size
 |_=>1
def Ty.isAgg:Ty->Bool
 | .arr _ _=>true
 | .unit=>true
 | .fld _ _=>true
 |_=>false
def Ty.flat:Ty->Bool
 | .slice _=>false
 | .ptr=>false
 | .mp=>false
 | .fn=>false
 | .arr _ e=>e.flat
 | .fld a r=>a.flat&&r.flat
 |_=>true
def pack(t:Ty)(cs:List Value):Value:=if t.isAgg then .agg cs.toArray else cs.headD undef
def Cat{α:Type}(R:List Value->α->Prop):List Value->List α->Prop
 |cs,[]=>cs=[]
 |cs,x::xs=>∃c1 c2,cs=c1++c2/\R c1 x/\Cat R c2 xs
def Jp6{α:Type}(w:World)(sz:Nat)(R:List Value->α->Prop)(b o:Nat)(xs:List α):Prop:=∀i x,xs[i]? =some x->∃cs,R cs x/\∀j,j<cs.length->w.cell? ⟨b,o+i*sz+j,none⟩=cs[j]?
def J92(w:World)(ok:Nat->Prop):(t:Ty)->List Value->t.den->Prop
 | .int k,cs,x=>cs=[.int k (IK.toInt k x)]
 | .bool,cs,x=>cs=[.bool x]
 | .str,cs,x=>cs=[.string ⟨List.toArray x⟩]
 | .flt,cs,x=>Int.natAbs x<9007199254740992/\cs=[.float .f64 (FloatKind.f64.nearest x)]
 | .cplx,cs,x=>(Int.natAbs x.1<9007199254740992/\Int.natAbs x.2<9007199254740992)/\cs=[.complex .f64 (FloatKind.f64.nearest x.1) (FloatKind.f64.nearest x.2)]
 | .ptr,_,_=>False
 | .mp,_,_=>False
 | .fn,_,_=>False
 | .arr n e,cs,xs=>List.length xs=n/\Cat (J92 w ok e) cs xs
 | .slice e,cs,xs=>∃a c,cs=[.slice a (List.length xs) c]/\List.length xs<=c/\ (xs=[]\/∃b o,a=some ⟨b,o,none⟩/\ok b/\Jp6 w e.size (J92 w ok e) b o xs)
 | .unit,cs,_=>cs=[]
 | .fld a r,cs,x=>∃c1 c2,cs=c1++c2/\J92 w ok a c1 x.1/\J92 w ok r c2 x.2
theorem Cat.len{R:List Value->α->Prop}{sz:Nat}(h:∀cs x,R cs x->cs.length=sz):∀{cs:List Value} {xs:List α},Cat R cs xs->cs.length=xs.length*sz:=by
 intro cs xs;induction xs generalizing cs with
 |nil=>intro h;simp only[Cat]at h;simp[h]
 |cons x xs ih=>rintro⟨c1,c2,rfl,h1,h2⟩;grind
theorem J92.len{ok:Nat->Prop}:∀(t:Ty) {cs:List Value} {x:t.den},J92 w ok t cs x->cs.length=t.size
 | .int k,cs,x,h=>by simp only[J92]at h;subst h;rfl
 | .bool,cs,x,h=>by simp only[J92]at h;subst h;rfl
 | .str,cs,x,h=>by simp only[J92]at h;subst h;rfl
 | .flt,cs,x,h=>by obtain⟨_,rfl⟩:=h;rfl
 | .cplx,cs,x,h=>by obtain⟨_,rfl⟩:=h;rfl
 | .ptr,_,_,h=>h.elim
 | .mp,_,_,h=>h.elim
 | .fn,_,_,h=>h.elim
 | .arr n e,cs,xs,h=>by obtain⟨h1,h2⟩:=h;rw[Cat.len (λcs x=>J92.len e) h2,h1];rfl
 | .slice e,cs,xs,h=>by obtain⟨a,c,rfl,_⟩:=h;rfl
 | .unit,cs,_,h=>by simp only[J92]at h;subst h;rfl
 | .fld a r,cs,x,h=>by obtain⟨c1,c2,rfl,h1,h2⟩:=h;simp only[List.length_append,J92.len a h1,J92.len r h2,Ty.size]
theorem Cat.mono{R R':List Value->α->Prop}(h:∀cs x,R cs x->R' cs x):∀{cs:List Value} {xs:List α},Cat R cs xs->Cat R' cs xs:=by intro cs xs;induction xs generalizing cs with|nil=>exact id|cons x xs ih=>rintro⟨c1,c2,rfl,h1,h2⟩;exact⟨c1,c2,rfl,h _ _ h1,ih h2⟩
structure J9c(w w':World)(ok ok':Nat->Prop):Prop where
 sub:∀b,ok b->ok' b
 cell:∀b o v,ok b->w.cell? ⟨b,o,none⟩=some v->w'.cell? ⟨b,o,none⟩=some v
theorem Jp6.mono(k:J9c w w' ok ok')(h:∀cs x,R cs x->R' cs x)(hb:ok b)(hr:Jp6 w sz R b o xs):Jp6 w' sz R' b o xs:=by intro i x hx;obtain⟨cs,h1,h2⟩:=hr i x hx;refine⟨cs,h _ _ h1,λj hj=> ?_⟩;have:=h2 j hj;rw[List.getElem?_eq_getElem hj]at this⊢;exact k.cell _ _ _ hb this
theorem J92.mono{ok ok':Nat->Prop}(k:J9c w w' ok ok'):∀(t:Ty) {cs:List Value} {x:t.den},J92 w ok t cs x->J92 w' ok' t cs x
 | .int _,_,_,h=>h
 | .bool,_,_,h=>h
 | .str,_,_,h=>h
 | .flt,_,_,h=>h
 | .cplx,_,_,h=>h
 | .ptr,_,_,h=>h
 | .mp,_,_,h=>h
 | .fn,_,_,h=>h
 | .arr _ e,_,_,h=>⟨h.1,Cat.mono (λ_ _=>J92.mono k e) h.2⟩
 | .slice e,_,_,h=>by
  obtain⟨a,c,h1,h2,h3⟩:=h;refine⟨a,c,h1,h2, ?_⟩;rcases h3 with h3|⟨b,o,h3,h4,h5⟩;·exact .inl h3
  exact .inr ⟨b,o,h3,k.sub _ h4,Jp6.mono k (λ_ _=>J92.mono k e) h4 h5⟩
 | .unit,_,_,h=>h
 | .fld a r,_,_,h=>by obtain⟨c1,c2,h0,h1,h2⟩:=h;exact⟨c1,c2,h0,J92.mono k a h1,J92.mono k r h2⟩
theorem J92.flat{ok ok':Nat->Prop}:∀(t:Ty) {cs:List Value} {x:t.den},t.flat=true->J92 w ok t cs x->J92 w' ok' t cs x
 | .int _,_,_,_,h=>h
 | .bool,_,_,_,h=>h
 | .str,_,_,_,h=>h
 | .flt,_,_,_,h=>h
 | .cplx,_,_,_,h=>h
 | .ptr,_,_,_,h=>h
 | .mp,_,_,_,h=>h
 | .fn,_,_,_,h=>h
 | .arr _ e,_,_,f,h=>⟨h.1,Cat.mono (λ_ _=>J92.flat e f) h.2⟩
 | .slice e,_,_,f,_=>by simp[Ty.flat]at f
 | .unit,_,_,_,h=>h
 | .fld a r,_,_,f,h=>by simp only[Ty.flat,Bool.and_eq_true]at f;obtain⟨c1,c2,h0,h1,h2⟩:=h;exact⟨c1,c2,h0,J92.flat a f.1 h1,J92.flat r f.2 h2⟩
end Go.Ax

namespace Go.Ax
inductive Step where
 |fld (k:Nat)|idx (i:Nat)
 deriving DecidableEq,Inhabited
inductive J8e where
 |undef
 |v (t:Ty) (x:t.den)
 |nil
 |nilp
 |own (l:Nat) (p:List Step)
 |ptr (l:Nat) (p:List Step)
 |ref (t:Ty) (x:t.den)
 |fn (f:Nat) (cap:J8e)
 |mp (l:Nat)
 |anyb
 |node (a r:J8e)
 |tup (a r:J8e)
 |tnil
 deriving Inhabited
def Ty.field:Ty->Nat->Option (Nat×Ty)
 | .fld a _,0=>some (0,a)
 | .fld a r,k+1=>match r.field k with|some (o,t)=>some (a.size+o,t)|none=>none
 |_,_=>none
def Jaq:Ty->List Step->Nat->Ty->Prop
 |t,[],o,t'=>o=0/\t'=t
 |t,.fld k::p,o,t'=>∃o1 t1 o2,t.field k=some (o1,t1)/\Jaq t1 p o2 t'/\o=o1+o2
 |t,.idx i::p,o,t'=>∃n e o2,t= .arr n e/\i<n/\Jaq e p o2 t'/\o=i*e.size+o2
inductive GK where
 |row|box|map
 deriving DecidableEq,Inhabited
structure GE where
 kind:GK
 blk:Option Nat
 ty:Ty
 n:Nat
 cap:Nat
 deriving Inhabited
def GE.lay(g:GE):Ty:=match g.kind with| .row=>.arr g.n g.ty|_=>g.ty
inductive J8g where
 |row (e:Ty) (xs:List e.den) (live:Bool)
 |box (t:Ty) (s:J8e) (live:Bool)
 |map (k v:Ty) (es:List (k.den×v.den)) (live:Bool)
 |dead
def J8g.live:J8g->Bool
 | .row _ _ l=>l
 | .box _ _ l=>l
 | .map _ _ _ l=>l
 | .dead=>false
def J8g.isDead:J8g->Bool
 | .dead=>true
 |_=>false
def OwnV(g:GE)(p:List Step)(t:Ty)(v:Value):Prop:=(p=[]/\g.kind= .row/\t= .slice g.ty/\v= .slice (g.blk.map λb=>⟨b,0,none⟩) g.n g.cap)\/ (g.kind= .box/\∃b o n e,g.blk=some b/\Jaq g.ty p o (.arr n e)/\t= .slice e/\v= .slice (some ⟨b,o,none⟩) n n)
def PtrV(g:GE)(p:List Step)(v:Value):Prop:=g.kind≠.map/\∃b o t',g.blk=some b/\Jaq g.lay p o t'/\v= .pointer (some ⟨b,o,none⟩)
mutual
def J90(G:List GE)(w:World)(ok:Nat->Prop):J8e->Ty->List Value->Prop
 | .undef,t,cs=>cs.length=t.size
 | .v t' x,t,cs=>t'=t/\J92 w ok t' cs x
 | .nil,t,cs=>(∃e,t= .slice e)/\cs=[.slice none 0 0]
 | .nilp,t,cs=>t= .ptr/\cs=[.pointer none]
 | .own l p,t,cs=>∃g v,G[l]? =some g/\cs=[v]/\OwnV g p t v
 | .ptr l p,t,cs=>t= .ptr/\∃g v,G[l]? =some g/\cs=[v]/\PtrV g p v
 | .ref t' x,t,cs=>t= .ptr/\∃b o cs',cs=[.pointer (some ⟨b,o,none⟩)]/\ok b/\J92 w ok t' cs' x/\∀j,j<cs'.length->w.cell? ⟨b,o+j,none⟩=cs'[j]?
 | .fn f cap,t,cs=>t= .fn/\∃vs:List Value,cs=[.func (.func f) #[] vs.toArray]/\Jkg G w ok cap vs
 | .mp l,t,cs=>t= .mp/\∃g b,G[l]? =some g/\g.kind= .map/\g.blk=some b/\cs=[.map (some b)]
 | .anyb,t,cs=>t= .bool/\∃b:Bool,cs=[.bool b]
 | .node a r,t,cs=>∃ta tr,t= .fld ta tr/\∃c1 c2,cs=c1++c2/\J90 G w ok a ta c1/\J90 G w ok r tr c2
 | .tup _ _,_,_=>False
 | .tnil,_,_=>False
def Jkg(G:List GE)(w:World)(ok:Nat->Prop):J8e->List Value->Prop
 | .tnil,vs=>vs=[]
 | .tup a r,vs=>∃v vs',vs=v::vs'/\(∃t cs,J90 G w ok a t cs/\v=pack t cs)/\Jkg G w ok r vs'
 |_,_=>False
end
def J9e(G:List GE)(w:World)(ok:Nat->Prop):J8e->Value->Prop
 | .undef,_=>True
 | .tup a r,v=>∃vs:List Value,v= .tuple vs.toArray/\Jkg G w ok (.tup a r) vs
 | .tnil,v=>v= .tuple #[]
 |s,v=>∃t cs,J90 G w ok s t cs/\v=pack t cs
theorem J9e.of(h:J90 G w ok s t cs):J9e G w ok s (pack t cs):=by cases s<;>first|exact⟨_,_,h,rfl⟩|trivial|exact h.elim
theorem J90.len:∀(s:J8e) {t:Ty} {cs:List Value},J90 G w ok s t cs->cs.length=t.size
 | .undef,_,_,h=>h
 | .v t x,_,_,h=>by obtain⟨rfl,h⟩:=h;exact J92.len _ h
 | .nil,_,_,h=>by obtain⟨⟨e,rfl⟩,rfl⟩:=h;rfl
 | .nilp,_,_,h=>by obtain⟨rfl,rfl⟩:=h;rfl
 | .own l p,_,_,h=>by obtain⟨g,v,_,rfl,⟨_,_,rfl,_⟩|⟨_,b,o,n,e,_,_,rfl,_⟩⟩:=h<;>rfl
 | .ptr l p,_,_,h=>by obtain⟨rfl,g,v,_,rfl,_⟩:=h;rfl
 | .ref t x,_,_,h=>by obtain⟨rfl,b,o,cs',rfl,_⟩:=h;rfl
 | .fn f cap,_,_,h=>by obtain⟨rfl,vs,rfl,_⟩:=h;rfl
 | .mp l,_,_,h=>by obtain⟨rfl,g,b,_,_,_,rfl⟩:=h;rfl
 | .anyb,_,_,h=>by obtain⟨rfl,b,rfl⟩:=h;rfl
 | .node a r,_,_,h=>by obtain⟨ta,tr,rfl,c1,c2,rfl,h1,h2⟩:=h;simp only[List.length_append,J90.len a h1,J90.len r h2,Ty.size]
 | .tup _ _,_,_,h=>h.elim
 | .tnil,_,_,h=>h.elim
def Ext(G G':List GE):Prop:=∀(l:Nat) (g:GE),G[l]? =some g->G'[l]? =some g
theorem Ext.refl G:Ext G G:=λ_ _ h=>h
theorem Ext.snoc G g:Ext G (G++[g]):=λl g' h=>by grind
mutual
theorem J90.mono(hG:Ext G G')(k:J9c w w' ok ok'):
  ∀(s:J8e) {t:Ty} {cs:List Value},J90 G w ok s t cs->J90 G' w' ok' s t cs
 | .undef,_,_,h=>h
 | .v t x,_,_,h=>by obtain⟨e,h⟩:=h;exact⟨e,J92.mono k _ h⟩
 | .nil,_,_,h=>h
 | .nilp,_,_,h=>h
 | .own l p,_,_,h=>by obtain⟨g,v,h1,h2⟩:=h;exact⟨g,v,hG _ _ h1,h2⟩
 | .ptr l p,_,_,h=>by obtain⟨e,g,v,h1,h2⟩:=h;exact⟨e,g,v,hG _ _ h1,h2⟩
 | .ref t x,_,_,h=>by obtain⟨e,b,o,cs',h1,h2,h3,h4⟩:=h;refine⟨e,b,o,cs',h1,k.sub _ h2,J92.mono k _ h3,λj hj=> ?_⟩;have:=h4 j hj;rw[List.getElem?_eq_getElem hj]at this⊢;exact k.cell _ _ _ h2 this
 | .fn f cap,_,_,h=>by obtain⟨e,vs,h1,h2⟩:=h;exact⟨e,vs,h1,Jkg.mono hG k cap h2⟩
 | .mp l,_,_,h=>by obtain⟨e,g,b,h1,h2⟩:=h;exact⟨e,g,b,hG _ _ h1,h2⟩
 | .anyb,_,_,h=>h
 | .node a r,_,_,h=>by obtain⟨ta,tr,e,c1,c2,e2,h1,h2⟩:=h;exact⟨ta,tr,e,c1,c2,e2,J90.mono hG k a h1,J90.mono hG k r h2⟩
 | .tup _ _,_,_,h=>h.elim
 | .tnil,_,_,h=>h.elim
theorem Jkg.mono(hG:Ext G G')(k:J9c w w' ok ok'):
  ∀(s:J8e) {vs:List Value},Jkg G w ok s vs->Jkg G' w' ok' s vs
 | .tnil,_,h=>h
 | .tup a r,_,h=>by obtain⟨v,vs',e,⟨t,cs,h1,h2⟩,h3⟩:=h;exact⟨v,vs',e,⟨t,cs,J90.mono hG k a h1,h2⟩,Jkg.mono hG k r h3⟩
 | .undef,_,h=>h.elim
 | .v _ _,_,h=>h.elim
 | .nil,_,h=>h.elim
 | .nilp,_,h=>h.elim
 | .own _ _,_,h=>h.elim
 | .ptr _ _,_,h=>h.elim
 | .ref _ _,_,h=>h.elim
 | .fn _ _,_,h=>h.elim
 | .mp _,_,h=>h.elim
 | .anyb,_,h=>h.elim
 | .node _ _,_,h=>h.elim
end
theorem J9e.mono(hG:Ext G G')(k:J9c w w' ok ok') s (h:J9e G w ok s v):J9e G' w' ok' s v:=by
 cases s<;>first
  |trivial
  |exact h
  |(obtain⟨t,cs,h1,h2⟩:=h;exact⟨t,cs,J90.mono hG k _ h1,h2⟩)
  |(obtain⟨vs,h1,h2⟩:=h;exact⟨vs,h1,Jkg.mono hG k _ h2⟩)
def Jj0(w:World)(ok:Nat->Prop)(k v:Ty):List (k.den×v.den)->List MapEntry->Prop
 |[],[]=>True
 |p::ps,e::es=>((∃c1,J92 w ok k c1 p.1/\e.key=pack k c1)/\∃c2,J92 w ok v c2 p.2/\e.val=pack v c2)/\Jj0 w ok k v ps es
 |_,_=>False
theorem Jj0.mono(q:J9c w w' ok ok'):∀{ps:List (k.den×v.den)} {es:List MapEntry},Jj0 w ok k v ps es->Jj0 w' ok' k v ps es
 |[],[],_=>trivial
 |_::_,_::_,⟨⟨⟨c1,h1,h2⟩,c2,h3,h4⟩,h5⟩=>⟨⟨⟨c1,J92.mono q _ h1,h2⟩,c2,J92.mono q _ h3,h4⟩,Jj0.mono q h5⟩
 |[],_::_,h=>h.elim
 |_::_,[],h=>h.elim
def Jb3(es:Array MapEntry)(q:Nat):Prop:=(∀x∈es.toList,x.born<q)/\(es.toList.map (·.born)).Nodup
def MapB(w:World)(ok:Nat->Prop)(k v:Ty)(ps:List (k.den×v.den))(es:Array MapEntry)(q:Nat):Prop:=Jj0 w ok k v ps es.toList/\Jb3 es q
theorem MapB.mono(r:J9c w w' ok ok')(h:MapB w ok k v ps es q):MapB w' ok' k v ps es q:=⟨Jj0.mono r h.1,h.2⟩
def Jet(G:List GE)(w:World)(ok:Nat->Prop)(g:GE):J8g->Prop
 | .row e xs _=>g.kind= .row/\g.ty=e/\g.n=List.length xs/\g.n<=g.cap/\ ((g.blk=none/\g.cap=0)\/∃b c T,g.blk=some b/\w.heap[b]? =some (.cells c T (0,0))/\g.cap*e.size<=c.size/\J92 w ok (.arr g.n e) (c.toList.take (g.n*e.size)) xs)
 | .box t s _=>g.kind= .box/\g.ty=t/\∃b c T,g.blk=some b/\w.heap[b]? =some (.cells c T (0,0))/\J90 G w ok s t c.toList
 | .map k v ps _=>g.kind= .map/\∃b es q,g.blk=some b/\w.heap[b]? =some (.map es q)/\MapB w ok k v ps es q
 | .dead=>True
theorem cell?_of_heap {w w':World} {b:Nat} (h:w'.heap[b]? =w.heap[b]?) (o:Nat):w'.cell? ⟨b,o,none⟩=w.cell? ⟨b,o,none⟩:=by unfold World.cell?;rw[h]
theorem Jet.mono(hG:Ext G G')(k:J9c w w' ok ok')
  (hb:∀b,g.blk=some b->w'.heap[b]? =w.heap[b]?):∀(o:J8g),Jet G w ok g o->Jet G' w' ok' g o
 | .row e xs _,h=>by
  obtain⟨h1,h2,h3,h4,h5⟩:=h;refine⟨h1,h2,h3,h4, ?_⟩;rcases h5 with h5|⟨b,c,T,h5,h6,h7,h8⟩;·exact .inl h5
  exact .inr ⟨b,c,T,h5,by rw[hb b h5];exact h6,h7,J92.mono k _ h8⟩
 | .box t s _,h=>by obtain⟨h1,h2,b,c,T,h3,h4,h5⟩:=h;exact⟨h1,h2,b,c,T,h3,by rw[hb b h3];exact h4,J90.mono hG k _ h5⟩
 | .map _ _ _ _,h=>by obtain⟨h1,b,es,q,h2,h3,h4⟩:=h;exact⟨h1,b,es,q,h2,by rw[hb b h2];exact h3,MapB.mono k h4⟩
 | .dead,_=>trivial
structure St where
 slots:List (Nat×J8e)
 heap:List J8g
 n:Nat
 m:Nat
def look:List (Nat×J8e)->Nat->J8e
 |[],_=>.undef
 |(i,s)::r,k=>bif Nat.beq i k then s else look r k
structure Ctx where
 A:Nat->Prop
 E:Nat->Prop
 L:Nat->Prop
 w0:World
 G0:List GE
def Jge(G:List GE)(h:List J8g)(b:Nat):Prop:=∃(l:Nat) (o:J8g) (g:GE),h[l]? =some o/\G[l]? =some g/\o.live=true/\g.blk=some b
def okB(c:Ctx)(G:List GE)(h:List J8g)(w:World)(b:Nat):Prop:=b<w.heap.size/\(b<c.w0.heap.size->c.A b)/\¬Jge G h b
structure HRG(c:Ctx)(G:List GE)(h:List J8g)(w:World):Prop where
 EA:∀b,c.E b->c.A b
 len:G.length=h.length
 inj:∀(l l':Nat) (g g':GE) (o o':J8g) (b:Nat),G[l]? =some g->G[l']? =some g'->h[l]? =some o->h[l']? =some o'->
  o.isDead=false->o'.isDead=false->g.blk=some b->g'.blk=some b->l=l'
 inE:∀(l:Nat) (o:J8g) (g:GE) (b:Nat),h[l]? =some o->G[l]? =some g->o.isDead=false->g.blk=some b->
  b<w.heap.size/\(c.E b\/c.w0.heap.size<=b)
 inL:∀b,Jge G h b->c.L b\/c.w0.heap.size<=b
 frame:∀b,b<c.w0.heap.size->¬c.L b->w.heap[b]? =c.w0.heap[b]?
 big:c.w0.heap.size<=w.heap.size
 os:w.os=c.w0.os
 tape:w.tape=c.w0.tape
 output:w.output=c.w0.output
 objs:∀(l:Nat) (o:J8g) (g:GE),h[l]? =some o->G[l]? =some g->Jet G w (okB c G h w) g o
structure SRG(c:Ctx)(G:List GE)(st:St)(a:Act)(w:World):Prop extends HRG c G st.heap w where
 slots:∀i,J9e G w (okB c G st.heap w) (look st.slots i) (a.tmps.getD i undef)
 ent:Ext c.G0 G
 em:c.G0.length=st.m
 sz:a.tmps.size=st.n
 nodef:a.defers=[]
def SR(c:Ctx)(st:St)(a:Act)(w:World):Prop:=∃G,SRG c G st a w
end Go.Ax

namespace Go.Ax
def ARel(G:List GE)(w:World)(ok:Nat->Prop)(az:List J8e)(vs:List Value):Prop:=az.length=vs.length/\∀(i:Nat) (s:J8e) (v:Value),az[i]? =some s->vs[i]? =some v->J9e G w ok s v
section
variable (P : Program)
def Kcz(o:Oper)(st st':St):Prop:=∀(c:Ctx) (a:Act) (w:World),SR c st a w->∀(next:Act->World->Prop) (Q:Exit->Act->World->Prop),(∀a' w',SR c st' a' w'->next a' w')->o.wp P a w next Q
def Jek(ops:Array Oper)(l:List Oper)(st st':St):Prop:=∀(c:Ctx) (a:Act) (w:World),SR c st a w->∀(Q:Exit->Act->World->Prop),(∀a' w',SR c st' a' w'->Q .normal a' w')->wpList P ops Q l a w
def J8c(x:Code)(st:St)(o:Exit)(st':St):Prop:=∀(c:Ctx) (a:Act) (w:World),SR c st a w->x.wp P (λe a' w'=>e=o/\SR c st' a' w') a w
def Jd7(x:Code)(st:St)(o:Exit)(st':St):Prop:=∃n,∀(c:Ctx) (a:Act) (w:World),SR c st a w->Code.rounds P x (λe a' w'=>e=o/\SR c st' a' w') n a w
def Jcw(st st':St):Prop:=∀(c:Ctx) (a:Act) (w:World),SR c st a w->SR c st' a w
def Jml(f:FuncId)(args:List J8e)(objs:List J8g)(ret:J8e)(objs':List J8g):Prop:=∀(c:Ctx) (G:List GE) (vs:List Value),HRG c G objs c.w0->c.G0=G->ARel G c.w0 (okB c G objs c.w0) args vs-> Calls P f vs.toArray c.w0 λe w'=>∃v G',e= .returned v/\HRG c G' objs' w'/\J9e G' w' (okB c G' objs' w') ret v/\Ext G G'
end
section
variable {P : Program}
theorem Jcw.refl st:Jcw st st:=λ_ _ _ h=>h
theorem Jcw.trans(h:Jcw a b)(h':Jcw b c):Jcw a c:=λ_ _ _ x=>h' _ _ _ (h _ _ _ x)
theorem Jek.nil ops st:Jek P ops [] st st:=λ_ _ _ h _ hq=>hq _ _ h
theorem Jek.weak(hw:Jcw st st1)(h:Jek P ops l st1 st'):Jek P ops l st st':=λc a w hs Q hq=>h c a w (hw c a w hs) Q hq
theorem Jek.cons(hg:o.guard=none)(ho:Kcz P o st st1)(hl:Jek P ops l st1 st'):Jek P ops (o::l) st st':=by intro c a w hs Q hq;refine wpList_plain hg λK hK=> ?_;exact ho c a w hs K Q λa' w' hs'=>hK _ _ (hl c a' w' hs' Q hq)
theorem Juo(hs:SRG c G st a w)(h:look st.slots i= .v .bool b):a.tmps[i]? =some (.bool b):=by
 have:=hs.slots i;rw[h]at this;obtain⟨t,cs,⟨rfl,h2⟩,e⟩:=this;simp only[J92]at h2;subst h2;simp only[pack,Ty.isAgg,Bool.false_eq_true,if_false,List.headD_cons]at e;rw[Array.getD_eq_getD_getElem?]at e;cases hh:a.tmps[i]? with
 |none=>rw[hh]at e;simp only[Option.getD_none,undef]at e;cases e
 |some v=>rw[hh]at e;simp only[Option.getD_some]at e;rw[e]
theorem Jle(hs:SRG c G st a w)(hj:ops[j]? =some oj)(hd:oj.dst=some d)(h:look st.slots d= .v .bool b):yielded ops a.tmps j=some b:=by have:=Juo hs h;simp[yielded,hj,hd,this]
theorem Jek.cons_wanted(hg:o.guard=some (j,want))(hj:ops[j]? =some oj)(hd:oj.dst=some d)(h:look st.slots d= .v .bool want)(ho:Kcz P o st st1)(hl:Jek P ops l st1 st'):Jek P ops (o::l) st st':=by intro c a w hs Q hq;obtain⟨G,hs'⟩:=id hs;have hy:=Jle hs' hj hd h;refine wpList_step λK hK=> ?_;rw[if_pos (by simp[Region.wanted,hg,hy])];exact ho c a w hs K Q λa' w' hs'=>hK _ _ (hl c a' w' hs' Q hq)
theorem Jek.cons_skip(hg:o.guard=some (j,want))(hj:ops[j]? =some oj)(hd:oj.dst=some d)(h:look st.slots d= .v .bool b)(hb:b≠want)(ho:∀(c:Ctx) (a:Act) (w:World),SR c st a w->SR c st1 (a.put o.dst undef) w)(hl:Jek P ops l st1 st'):Jek P ops (o::l) st st':=by intro c a w hs Q hq;obtain⟨G,hs'⟩:=id hs;have hy:=Jle hs' hj hd h;refine wpList_step λK hK=> ?_;rw[if_neg (by simp[Region.wanted,hg,hy,hb])];exact hK _ _ (hl c _ w (ho c a w hs) Q hq)
theorem J8c.region{id:Nat}{ops:Array Oper}{st st':St}(h:Jek P ops ops.toList st st'):J8c P (.region id ops false) st .normal st':=λc a w hs=>wp_region_list (h c a w hs _ λ_ _ h=>⟨rfl,h⟩)
theorem J8c.weak(hw:Jcw st st1)(h:J8c P x st1 o st'):J8c P x st o st':=λc a w hs=>h c a w (hw c a w hs)
theorem J8c.weak_post(h:J8c P x st o st1)(hw:Jcw st1 st'):J8c P x st o st':=λc a w hs=>Code.wp_mono (λ_ _ _ ⟨e,h⟩=>⟨e,hw _ _ _ h⟩) (h c a w hs)
theorem J8c.skip st:J8c P .skip st .normal st:=λ_ _ _ hs=>wp_skip ⟨rfl,hs⟩
theorem J8c.label(l:Nat) st:J8c P (.label l) st .normal st:=λ_ _ _ hs=>wp_label ⟨rfl,hs⟩
theorem J8c.exit(id:Nat) st:J8c P (.exit id) st (.exit id) st:=λ_ _ _ hs=>wp_exit ⟨rfl,hs⟩
theorem J8c.goto(l:Nat) st:J8c P (.goto l) st (.goto l) st:=λ_ _ _ hs=>wp_goto ⟨rfl,hs⟩
theorem J8c.ret st:J8c P .ret st .ret st:=λ_ _ _ hs=>wp_ret ⟨rfl,hs⟩
theorem J8c.seq(hx:J8c P x st .normal st1)(hy:J8c P y st1 o st'):J8c P (.seq x y) st o st':=λc a w hs=>wp_seq (Code.wp_mono (by rintro e a w ⟨rfl,h⟩;exact hy c a w h) (hx c a w hs))
theorem J8c.seq_out(ho:o≠.normal)(hx:J8c P x st o st'):J8c P (.seq x y) st o st':=λc a w hs=>wp_seq (Code.wp_mono (by rintro e a w ⟨rfl,h⟩;cases e<;>first|exact absurd rfl ho|exact⟨rfl,h⟩) (hx c a w hs))
theorem J8c.cond(h:look st.slots t= .v .bool b)(hx:J8c P (if b then x else y) st o st'):J8c P (.cond (.tmp t) x y) st o st':=by intro c a w hs;obtain⟨G,hs'⟩:=id hs;refine wp_cond (t:=b) ?_ (hx c a w hs);have:=Juo hs' h;simp[Act.eval,Array.getD_eq_getD_getElem?,this]
theorem J8c.any(h:look st.slots t= .anyb)(hx:J8c P x st o st')(hy:J8c P y st o st'):J8c P (.cond (.tmp t) x y) st o st':=by
 intro c a w hs;obtain⟨G,hs'⟩:=id hs;have hv:=hs'.slots t;rw[h]at hv;obtain⟨ty,cs,⟨rfl,b,rfl⟩,e⟩:=hv;have e:a.tmps.getD t undef= .bool b:=e;refine wp_cond (t:=b) ?_ ?_;·simp only[Act.eval];exact e
 cases b;·exact hy c a w hs
 exact hx c a w hs
theorem J8c.cond_const(hx:J8c P (if b then x else y) st o st'):J8c P (.cond (.const (.bool b)) x y) st o st':=λc a w hs=>wp_cond (t:=b) rfl (hx c a w hs)
theorem J8c.block{id:Nat}{x:Code}{st st':St}(h:J8c P x st .normal st'):J8c P (.block id x) st .normal st':=λc a w hs=>wp_block (Code.wp_mono (by rintro e a w ⟨rfl,h⟩;exact⟨rfl,h⟩) (h c a w hs))
theorem J8c.block_exit{id:Nat}{x:Code}{st st':St}(h:J8c P x st (.exit id) st'):J8c P (.block id x) st .normal st':=λc a w hs=>wp_block (Code.wp_mono (by rintro e a w ⟨rfl,h⟩;simp only[Exit.inBlock,if_true];exact⟨by trivial,h⟩) (h c a w hs))
theorem J8c.block_out{id:Nat}{x:Code}{st st':St}{o:Exit}(ho:o≠.normal)(ho':o≠.exit id)(h:J8c P x st o st'):J8c P (.block id x) st o st':=λc a w hs=>wp_block (Code.wp_mono (by rintro e a w ⟨rfl,h2⟩;cases e with|exit id'=>have:id'≠id:=λe=>ho' (by rw[e]);simp only[Exit.inBlock,this,if_false];exact⟨by trivial,h2⟩|normal=>exact absurd rfl ho|_=>exact⟨rfl,h2⟩) (h c a w hs))
theorem Jd7.out(ho:o≠.normal)(h:J8c P x st o st'):Jd7 P x st o st':=⟨1,λc a w hs=>Code.wp_mono (by rintro e a w ⟨rfl,h2⟩;cases e<;>first|exact absurd rfl ho|exact⟨rfl,h2⟩) (h c a w hs)⟩
theorem Jd7.next(h:J8c P x st .normal st1)(h':Jd7 P x st1 o st'):Jd7 P x st o st':=by obtain⟨n,hn⟩:=h';exact⟨n+1,λc a w hs=>Code.wp_mono (by rintro e a w ⟨rfl,h2⟩;exact hn c a w h2) (h c a w hs)⟩
theorem Jd7.weak(hw:Jcw st st1)(h:Jd7 P x st1 o st'):Jd7 P x st o st':=let⟨n,hn⟩:=h;⟨n,λc a w hs=>hn c a w (hw c a w hs)⟩
theorem J8c.loop(h:Jd7 P x st o st'):J8c P (.loop x) st o st':=let⟨n,hn⟩:=h;λc a w hs=>wp_loop_rounds n (hn c a w hs)
end
end Go.Ax

namespace Go.Ax
theorem Jbb(d:Nat) s r (i:Nat):look ((d,s)::r) i=if d=i then s else look r i:=by show(bif Nat.beq d i then s else look r i)=_;simp_all
theorem Jhn{xs:Array Value}{d i:Nat}{v u:Value}(hd:d<xs.size):(xs.setIfInBounds d v).getD i u=if d=i then v else xs.getD i u:=by simp only[Array.getD_eq_getD_getElem?,Array.getElem?_setIfInBounds];grind
theorem SRG.put{w:World}(h:SRG c G st a w){d:Nat}{s:J8e}{v:Value}(hd:d<st.n)
  (hv:J9e G w (okB c G st.heap w) s v):SRG c G {st with slots:=(d,s)::st.slots} (a.put (some d) v) w where
 toHRG:=h.toHRG
 slots i:=by
  show J9e _ _ _ (look ((d,s)::st.slots) i) ((a.tmps.setIfInBounds d v).getD i undef)
  rw[Jbb,Jhn (by rw[h.sz];exact hd)]
  split
  ·exact hv
  ·exact h.slots i
 ent:=h.ent
 em:=h.em
 sz:=by show(a.tmps.setIfInBounds d v).size=st.n;rw[Array.size_setIfInBounds];exact h.sz
 nodef:=h.nodef
theorem SRG.on(h:SRG c G st a w)(hh:HRG c G' h' w')(hG:Ext G G')
  (k:J9c w w' (okB c G st.heap w) (okB c G' h' w')):SRG c G' {st with heap:=h'} a w' where
 toHRG:=hh
 slots i:=J9e.mono hG k _ (h.slots i)
 ent l g hl:=hG _ _ (h.ent l g hl)
 em:=h.em
 sz:=h.sz
 nodef:=h.nodef
def VOp(P:Program)(o:Oper)(st:St)(s:J8e)(h':List J8g):Prop:=∀(c:Ctx) (G:List GE) (a:Act) (w:World),SRG c G st a w-> ∃v w' G',((execOp a.eval o).run P w= .ok (.value v) w'\/((execOp a.eval o).run P w= .ok .skip w'/\s= .undef))/\ HRG c G' h' w'/\Ext G G'/\J9c w w' (okB c G st.heap w) (okB c G' h' w')/\J9e G' w' (okB c G' h' w') s v
def Jd9(o:Oper)(s:J8e)(st:St)(h':List J8g):St:=
 {st with slots:=match o.dst with|some d=>(d,s)::st.slots|none=>st.slots,heap:=h'}
theorem VOp.pure
  (h:∀(c:Ctx) (G:List GE) (a:Act) (w:World),SRG c G st a w->∃v,(execOp a.eval o).run P w= .ok (.value v) w/\J9e G w (okB c G st.heap w) s v):
  VOp P o st s st.heap:=λc G a w hs=>
 let⟨v,h1,h2⟩:=h c G a w hs
 ⟨v,w,G,.inl h1,hs.toHRG,Ext.refl G,⟨λ_ h=>h,λ_ _ _ _ h=>h⟩,h2⟩
def Jhh:List J8e->Nat->List (Nat×J8e)
 |[],_=>[]
 |s::r,k=>(k,s)::Jhh r (k+1)
theorem Jun:∀(az:List J8e) (k i:Nat),look (Jhh az k) (k+i)=az.getD i .undef
 |[],_,_=>rfl
 |s::r,k,0=>by simp[Jhh,Jbb]
 |s::r,k,i+1=>by rw[Jhh,Jbb,if_neg (by omega)];have:=Jun r (k+1) i;grind
def ResOK(P:Program)(fn:Func)(st:St)(r:J8e):Prop:=∀(c:Ctx) (G:List GE) (a:Act) (w:World),SRG c G st a w->∃v,(results fn a.tmps).run P w= .ok v w/\J9e G w (okB c G st.heap w) r v
def J8v(m:Nat)(r:J8e)(h:List J8g)(r':J8e)(h':List J8g):Prop:=∀(c:Ctx) (G:List GE) (w:World) (v:Value),HRG c G h w->J9e G w (okB c G h w) r v-> ∃G',HRG c G' h' w/\J9e G' w (okB c G' h' w) r' v/\∀(l:Nat) (g:GE),l<m->G[l]? =some g->G'[l]? =some g
theorem J8v.refl(m:Nat) r h:J8v m r h r h:=λ_ G _ _ hh hv=>⟨G,hh,hv,λ_ _ _ h=>h⟩
theorem J8v.trans(x:J8v m r h r1 h1)(y:J8v m r1 h1 r2 h2):J8v m r h r2 h2:=by intro c G w v hh hv;obtain⟨G1,hh1,hv1,e1⟩:=x c G w v hh hv;obtain⟨G2,hh2,hv2,e2⟩:=y c G1 w v hh1 hv1;grind
def entry(fn:Func)(az:List J8e)(objs:List J8g):St:={slots:=Jhh az 0,heap:=objs,n:=fn.ntmps,m:=objs.length}
theorem Jml.body(hf:P.funcs[f]? =some fn)(hb:fn.body=some code)(hn:az.length<=fn.ntmps)(hc:J8c P code (entry fn az objs) o st1)(ho:o= .normal\/o= .ret)(hr:ResOK P fn st1 r)(hw:J8v objs.length r st1.heap ret objs'):Jml P f az objs ret objs':=by
 intro c G vs hh hG0 ha;refine calls_of_wp hf hb ?_;have hlen:vs.toArray.size=az.length:=by simpa using ha.1.symm
 have h0:SRG c G (entry fn az objs) {tmps:=vs.toArray++Array.replicate (fn.ntmps - vs.toArray.size) undef,defers:=[]} c.w0:=by
  refine⟨hh,λi=> ?_,by rw[hG0];exact Ext.refl G,by rw[hG0,hh.len];rfl, ?_,rfl⟩;·show J9e G c.w0 (okB c G objs c.w0) (look (Jhh az 0) i) _;have:=Jun az 0 i;rw[Nat.zero_add]at this;rw[this,List.getD_eq_getElem?_getD,Array.getD_eq_getD_getElem?];cases hi:az[i]? with|none=>trivial|some s=>have hlt:i<az.length:=(by grind);rw[Array.getElem?_append_left (by rw[hlen];exact hlt)];have hv:vs[i]? =some (vs[i]'(by rw[<-ha.1];exact hlt)):=List.getElem?_eq_getElem _;have:=ha.2 i s _ hi hv;simpa[hv]using this
  show(vs.toArray++Array.replicate (fn.ntmps - vs.toArray.size) undef).size=fn.ntmps;grind
 refine Code.wp_mono ?_ (hc c _ _ ⟨G,h0⟩);rintro e a w ⟨rfl,G1,h1⟩;obtain⟨v,hv,hrel⟩:=hr c G1 a w h1;obtain⟨G',hh',hv',he⟩:=hw c G1 w v h1.toHRG hrel;have hext:Ext G G':=by intro l g hl;have hlt:l<objs.length:=(by rw[<-hh.len];grind);exact he l g hlt (h1.ent l g (by rw[hG0];exact hl))
 rcases ho with rfl|rfl;·exact⟨h1.nodef,v,hv,v,G',rfl,hh',hv',hext⟩
 exact⟨h1.nodef,v,hv,v,G',rfl,hh',hv',hext⟩
end Go.Ax

namespace Go.Ax
def fdec(bits:Nat):Option Int:=
 match (FloatKind.f64.decode bits).toInt .zero with
 |some n=>if n.natAbs<9007199254740992/\FloatKind.f64.nearest n=bits then some n else none
 |none=>none
theorem Jww{bits:Nat}{n:Int}(h:fdec bits=some n):n.natAbs<9007199254740992/\FloatKind.f64.nearest n=bits:=by unfold fdec at h;grind
def Jmx:Value->J8e
 | .bool b=>.v .bool b
 | .int k n=>if IK.toInt k (IK.ofInt k n)=n then .v (.int k) (IK.ofInt k n)else .undef
 | .string s=>.v .str s.data.toList
 | .slice none 0 0=>.nil
 | .pointer none=>.nilp
 | .float .f64 b=>match fdec b with|some n=>.v .flt n|none=>.undef
 | .complex .f64 a b=>match fdec a,fdec b with|some n,some m=>.v .cplx (n,m)|_,_=>.undef
 |_=>.undef
theorem Jtu G w ok v:J9e G w ok (Jmx v) v:=by
 unfold Jmx;split;·exact⟨.bool,_,⟨rfl,rfl⟩,rfl⟩
 ·split;·rename_i h;exact⟨.int _,_,⟨rfl,rfl⟩,by rw[h];rfl⟩
  trivial
 ·exact⟨.str,_,⟨rfl,rfl⟩,by simp[pack,Ty.isAgg]⟩
 ·exact⟨.slice .bool,_,⟨⟨_,rfl⟩,rfl⟩,rfl⟩
 ·exact⟨.ptr,_,⟨rfl,rfl⟩,rfl⟩
 ·split;·rename_i h;obtain⟨h1,h2⟩:=Jww h;exact⟨.flt,_,⟨rfl,h1,rfl⟩,by rw[h2];rfl⟩
  trivial
 ·split;·rename_i h h';obtain⟨h1,h2⟩:=Jww h;obtain⟨h3,h4⟩:=Jww h';exact⟨.cplx,_,⟨rfl,⟨h1,h3⟩,rfl⟩,by simp only[h2,h4];rfl⟩
  trivial
 trivial
def J9d(ss:List (Nat×J8e)):Operand->J8e
 | .tmp t=>look ss t
 | .const v=>Jmx v
 | .func f=>.fn f .tnil
 | .global _=>.undef
theorem J8s(h:SRG c G st a w) x:J9e G w (okB c G st.heap w) (J9d st.slots x) (a.eval x):=by cases x with|tmp t=>exact h.slots t|const v=>exact Jtu _ _ _ v|func f=>exact⟨.fn,_,⟨rfl,[],rfl,rfl⟩,rfl⟩|global g=>trivial
def J8e.ids:J8e->List Nat
 | .own l _=>[l]
 | .ptr l _=>[l]
 | .mp l=>[l]
 | .fn _ cap=>cap.ids
 | .node a r=>a.ids++r.ids
 | .tup a r=>a.ids++r.ids
 |_=>[]
def J8e.ren(f:Nat->Nat):J8e->J8e
 | .own l p=>.own (f l) p
 | .ptr l p=>.ptr (f l) p
 | .mp l=>.mp (f l)
 | .fn g cap=>.fn g (cap.ren f)
 | .node a r=>.node (a.ren f) (r.ren f)
 | .tup a r=>.tup (a.ren f) (r.ren f)
 | .undef=>.undef
 | .v t x=>.v t x
 | .nil=>.nil
 | .nilp=>.nilp
 | .ref t x=>.ref t x
 | .anyb=>.anyb
 | .tnil=>.tnil
def J8g.ids:J8g->List Nat
 | .box _ s _=>s.ids
 |_=>[]
def J8g.ren(f:Nat->Nat):J8g->J8g
 | .box t s l=>.box t (s.ren f) l
 | .row e xs l=>.row e xs l
 | .map k v es l=>.map k v es l
 | .dead=>.dead
theorem J8g.live_ren f (o:J8g):(o.ren f).live=o.live:=by cases o<;>rfl
theorem J8g.isDead_ren f (o:J8g):(o.ren f).isDead=o.isDead:=by cases o<;>rfl
def Jgg(G G':List GE)(f:Nat->Nat)(ids:List Nat):Prop:=∀l∈ids,∀(g:GE),G[l]? =some g->G'[f l]? =some g
theorem Jgg.left(h:Jgg G G' f (a++b)):Jgg G G' f a:=λl hl=>h l (List.mem_append_left _ hl)
theorem Jgg.right(h:Jgg G G' f (a++b)):Jgg G G' f b:=λl hl=>h l (List.mem_append_right _ hl)
mutual
theorem J90.ren:
  ∀(s:J8e) {t:Ty} {cs:List Value},Jgg G G' f s.ids->J90 G w ok s t cs->J90 G' w ok (s.ren f) t cs
 | .undef,_,_,_,h=>h
 | .v t x,_,_,_,h=>h
 | .nil,_,_,_,h=>h
 | .nilp,_,_,_,h=>h
 | .own l p,_,_,q,h=>by obtain⟨g,v,h1,h2⟩:=h;exact⟨g,v,q l (by simp[J8e.ids]) g h1,h2⟩
 | .ptr l p,_,_,q,h=>by obtain⟨e,g,v,h1,h2⟩:=h;exact⟨e,g,v,q l (by simp[J8e.ids]) g h1,h2⟩
 | .ref t x,_,_,_,h=>h
 | .fn f cap,_,_,q,h=>by obtain⟨e,vs,h1,h2⟩:=h;exact⟨e,vs,h1,Jkg.ren cap q h2⟩
 | .mp l,_,_,q,h=>by obtain⟨e,g,b,h1,h2⟩:=h;exact⟨e,g,b,q l (by simp[J8e.ids]) g h1,h2⟩
 | .anyb,_,_,_,h=>h
 | .node a r,_,_,q,h=>by obtain⟨ta,tr,e,c1,c2,e2,h1,h2⟩:=h;exact⟨ta,tr,e,c1,c2,e2,J90.ren a (Jgg.left q) h1,J90.ren r (Jgg.right q) h2⟩
 | .tup _ _,_,_,_,h=>h.elim
 | .tnil,_,_,_,h=>h.elim
theorem Jkg.ren:
  ∀(s:J8e) {vs:List Value},Jgg G G' f s.ids->Jkg G w ok s vs->Jkg G' w ok (s.ren f) vs
 | .tnil,_,_,h=>h
 | .tup a r,_,q,h=>by obtain⟨v,vs',e,⟨t,cs,h1,h2⟩,h3⟩:=h;exact⟨v,vs',e,⟨t,cs,J90.ren a (Jgg.left q) h1,h2⟩,Jkg.ren r (Jgg.right q) h3⟩
 | .undef,_,_,h=>h.elim
 | .v _ _,_,_,h=>h.elim
 | .nil,_,_,h=>h.elim
 | .nilp,_,_,h=>h.elim
 | .own _ _,_,_,h=>h.elim
 | .ptr _ _,_,_,h=>h.elim
 | .ref _ _,_,_,h=>h.elim
 | .fn _ _,_,_,h=>h.elim
 | .mp _,_,_,h=>h.elim
 | .anyb,_,_,h=>h.elim
 | .node _ _,_,_,h=>h.elim
end
theorem J9e.ren(s:J8e)(q:Jgg G G' f s.ids)(h:J9e G w ok s v):J9e G' w ok (s.ren f) v:=by
 cases s<;>first
  |trivial
  |exact h
  |(obtain⟨t,cs,h1,h2⟩:=h;exact⟨t,cs,J90.ren _ q h1,h2⟩)
  |(obtain⟨vs,h1,h2⟩:=h;exact⟨vs,h1,Jkg.ren _ q h2⟩)
theorem Jet.ren:∀(o:J8g),Jgg G G' f o.ids->Jet G w ok g o->Jet G' w ok g (o.ren f)
 | .row _ _ _,_,h=>h
 | .box t s _,q,h=>by obtain⟨h1,h2,b,c,T,h3,h4,h5⟩:=h;exact⟨h1,h2,b,c,T,h3,h4,J90.ren s q h5⟩
 | .map _ _ _ _,_,h=>h
 | .dead,_,_=>trivial
def J8e.flat:J8e->Bool
 | .v t _=>t.flat
 | .ref _ _=>false
 | .fn _ cap=>cap.flat
 | .node a r=>a.flat&&r.flat
 | .tup a r=>a.flat&&r.flat
 |_=>true
mutual
theorem J90.flat:
  ∀(s:J8e) {t:Ty} {cs:List Value},s.flat=true->J90 G w ok s t cs->J90 G w' ok' s t cs
 | .undef,_,_,_,h=>h
 | .v t x,_,_,q,h=>⟨h.1,J92.flat t q h.2⟩
 | .nil,_,_,_,h=>h
 | .nilp,_,_,_,h=>h
 | .own l p,_,_,q,h=>h
 | .ptr l p,_,_,q,h=>h
 | .ref t x,_,_,q,h=>by cases q
 | .fn f cap,_,_,q,h=>by obtain⟨e,vs,h1,h2⟩:=h;exact⟨e,vs,h1,Jkg.flat cap q h2⟩
 | .mp l,_,_,q,h=>h
 | .anyb,_,_,_,h=>h
 | .node a r,_,_,q,h=>by simp only[J8e.flat,Bool.and_eq_true]at q;obtain⟨ta,tr,e,c1,c2,e2,h1,h2⟩:=h;exact⟨ta,tr,e,c1,c2,e2,J90.flat a q.1 h1,J90.flat r q.2 h2⟩
 | .tup _ _,_,_,_,h=>h.elim
 | .tnil,_,_,_,h=>h.elim
theorem Jkg.flat:
  ∀(s:J8e) {vs:List Value},s.flat=true->Jkg G w ok s vs->Jkg G w' ok' s vs
 | .tnil,_,_,h=>h
 | .tup a r,_,q,h=>by simp only[J8e.flat,Bool.and_eq_true]at q;obtain⟨v,vs',e,⟨t,cs,h1,h2⟩,h3⟩:=h;exact⟨v,vs',e,⟨t,cs,J90.flat a q.1 h1,h2⟩,Jkg.flat r q.2 h3⟩
 | .undef,_,_,h=>h.elim
 | .v _ _,_,_,h=>h.elim
 | .nil,_,_,h=>h.elim
 | .nilp,_,_,h=>h.elim
 | .own _ _,_,_,h=>h.elim
 | .ptr _ _,_,_,h=>h.elim
 | .ref _ _,_,_,h=>h.elim
 | .fn _ _,_,_,h=>h.elim
 | .mp _,_,_,h=>h.elim
 | .anyb,_,_,h=>h.elim
 | .node _ _,_,_,h=>h.elim
end
theorem J9e.flat(s:J8e)(q:s.flat=true)(h:J9e G w ok s v):J9e G w' ok' s v:=by
 cases s<;>first
  |trivial
  |exact h
  |(obtain⟨t,cs,h1,h2⟩:=h;exact⟨t,cs,J90.flat _ q h1,h2⟩)
  |(obtain⟨vs,h1,h2⟩:=h;exact⟨vs,h1,Jkg.flat _ q h2⟩)
def J8g.flat:J8g->Bool
 | .row e _ _=>e.flat
 | .box _ s _=>s.flat
 | .map _ _ _ _=>false
 | .dead=>true
theorem Jet.flat:∀(o:J8g),o.flat=true->Jet G w ok g o->Jet G w ok' g o
 | .row e xs _,q,h=>by
  obtain⟨h1,h2,h3,h4,h5⟩:=h;refine⟨h1,h2,h3,h4, ?_⟩;rcases h5 with h5|⟨b,c,T,h5,h6,h7,h8⟩;·exact .inl h5
  exact .inr ⟨b,c,T,h5,h6,h7,J92.flat (.arr g.n e) q h8⟩
 | .box t s _,q,h=>by obtain⟨h1,h2,b,c,T,h3,h4,h5⟩:=h;exact⟨h1,h2,b,c,T,h3,h4,J90.flat s q h5⟩
 | .map _ _ _ _,q,h=>by cases q
 | .dead,_,_=>trivial
end Go.Ax

namespace Go.Ax
def J9h:Ty->List Value
 | .int k=>[.int k 0]
 | .bool=>[.bool false]
 | .str=>[.string ⟨#[]⟩]
 | .flt=>[.float .f64 0]
 | .cplx=>[.complex .f64 0 0]
 | .ptr=>[.pointer none]
 | .mp=>[.map none]
 | .fn=>[.nilFunc]
 | .arr n e=>(List.replicate n (J9h e)).flatten
 | .slice _=>[.slice none 0 0]
 | .unit=>[]
 | .fld a r=>J9h a++J9h r
def Jkf:Ty->J8e
 | .slice _=>.nil
 | .ptr=>.nilp
 | .mp=>.undef
 | .fn=>.undef
 | .fld a r=>if(Ty.fld a r).flat then .v (.fld a r) (Ty.zero (.fld a r))else .node (Jkf a) (Jkf r)
 | .arr n e=>if e.flat then .v (.arr n e) (Ty.zero (.arr n e))else .undef
 |t=>.v t t.zero
theorem Jae:∀(t:Ty),(J9h t).length=t.size
 | .int _=>rfl| .bool=>rfl| .str=>rfl| .flt=>rfl| .cplx=>rfl| .ptr=>rfl| .mp=>rfl| .fn=>rfl
 | .slice _=>rfl| .unit=>rfl
 | .fld a r=>by simp[J9h,Ty.size,Jae a,Jae r]
 | .arr n e=>by simp[J9h,Ty.size,Jae e]
theorem IK.toInt_zero k:IK.toInt k (IK.zero k)=0:=by cases k<;>rfl
theorem Jb9(h:R cs x):∀n,Cat R (List.replicate n cs).flatten (List.replicate n x)
 |0=>rfl
 |n+1=>by rw[List.replicate_succ,List.replicate_succ,List.flatten_cons];exact⟨cs,_,rfl,h,Jb9 h n⟩
theorem Jlp:FloatKind.f64.nearest 0=0:=by decide
theorem Jbq w ok:∀(t:Ty),t.flat=true->J92 w ok t (J9h t) t.zero
 | .int k,_=>by simp only[J92,J9h,Ty.zero,IK.toInt_zero]
 | .bool,_=>rfl
 | .str,_=>rfl
 | .flt,_=>⟨by decide,by rw[show Ty.zero .flt=(0:Int)from rfl,Jlp];rfl⟩
 | .cplx,_=>⟨by decide,by rw[show Ty.zero .cplx=((0:Int),(0:Int))from rfl];simp only[Jlp];rfl⟩
 | .ptr,q=>by cases q
 | .mp,q=>by cases q
 | .fn,q=>by cases q
 | .slice _,q=>by cases q
 | .unit,_=>rfl
 | .fld a r,q=>by simp only[Ty.flat,Bool.and_eq_true]at q;exact⟨_,_,rfl,Jbq w ok a q.1,Jbq w ok r q.2⟩
 | .arr n e,q=>⟨by simp[Ty.zero],Jb9 (Jbq w ok e q) n⟩
theorem Jhg G w ok:∀(t:Ty),J90 G w ok (Jkf t) t (J9h t)
 | .int k=>⟨rfl,Jbq w ok (.int k) rfl⟩
 | .bool=>⟨rfl,Jbq w ok .bool rfl⟩
 | .str=>⟨rfl,Jbq w ok .str rfl⟩
 | .flt=>⟨rfl,Jbq w ok .flt rfl⟩
 | .cplx=>⟨rfl,Jbq w ok .cplx rfl⟩
 | .ptr=>⟨rfl,rfl⟩
 | .mp=>rfl
 | .fn=>rfl
 | .slice _=>⟨⟨_,rfl⟩,rfl⟩
 | .unit=>⟨rfl,rfl⟩
 | .fld a r=>by
  unfold Jkf;split;·rename_i h;exact⟨rfl,Jbq w ok _ h⟩
  exact⟨a,r,rfl,_,_,rfl,Jhg G w ok a,Jhg G w ok r⟩
 | .arr n e=>by
  unfold Jkf;split;·rename_i h;exact⟨rfl,Jbq w ok (.arr n e) h⟩
  exact Jae _
abbrev Tab:=List (Nat×Ty×Nat)
def Tab.get:Tab->Nat->Option (Ty×Nat)
 |[],_=>none
 |(i,x)::r,k=>bif Nat.beq i k then some x else Tab.get r k
def Tab.ty(T:Tab)(t:Nat):Option Ty:=match T.get t with|some (x,_)=>some x|none=>none
def Jco(T:Tab):List Field->Ty->Nat->Prop
 |[],.unit,_=>True
 |f::fs,.fld a r,o=>T.ty f.type=some a/\f.offset=o/\Jco T fs r (o+a.size)
 |_,_,_=>False
def fieldsB(T:Tab):List Field->Ty->Nat->Bool
 |[],.unit,_=>true
 |f::fs,.fld a r,o=>decide (T.ty f.type=some a)&&decide (f.offset=o)&&fieldsB T fs r (o+a.size)
 |_,_,_=>false
theorem Jil:∀{fs:List Field} {t:Ty} {o:Nat},fieldsB T fs t o=true->Jco T fs t o
 |[],.unit,_,_=>trivial
 |f::fs,.fld a r,o,h=>by simp only[fieldsB,Bool.and_eq_true,decide_eq_true_eq]at h;exact⟨h.1.1,h.1.2,Jil h.2⟩
 |[],.int _,_,h=>by simp[fieldsB]at h
 |[],.bool,_,h=>by simp[fieldsB]at h
 |[],.str,_,h=>by simp[fieldsB]at h
 |[],.flt,_,h=>by simp[fieldsB]at h
 |[],.cplx,_,h=>by simp[fieldsB]at h
 |[],.ptr,_,h=>by simp[fieldsB]at h
 |[],.mp,_,h=>by simp[fieldsB]at h
 |[],.fn,_,h=>by simp[fieldsB]at h
 |[],.arr _ _,_,h=>by simp[fieldsB]at h
 |[],.slice _,_,h=>by simp[fieldsB]at h
 |[],.fld _ _,_,h=>by simp[fieldsB]at h
 |_::_,.unit,_,h=>by simp[fieldsB]at h
 |_::_,.int _,_,h=>by simp[fieldsB]at h
 |_::_,.bool,_,h=>by simp[fieldsB]at h
 |_::_,.str,_,h=>by simp[fieldsB]at h
 |_::_,.flt,_,h=>by simp[fieldsB]at h
 |_::_,.cplx,_,h=>by simp[fieldsB]at h
 |_::_,.ptr,_,h=>by simp[fieldsB]at h
 |_::_,.mp,_,h=>by simp[fieldsB]at h
 |_::_,.fn,_,h=>by simp[fieldsB]at h
 |_::_,.arr _ _,_,h=>by simp[fieldsB]at h
 |_::_,.slice _,_,h=>by simp[fieldsB]at h
def Ja9(T:Tab)(d:TypeDesc):Ty->Prop
 | .int k=>d= .int k
 | .bool=>d= .bool
 | .str=>d= .string
 | .flt=>d= .float .f64
 | .cplx=>d= .complex .f64
 | .ptr=>∃e,d= .pointer e
 | .mp=>∃k e,d= .map k e
 | .fn=>∃p r v,d= .func p r v
 | .arr n e=>∃te,d= .array n te/\T.ty te=some e
 | .slice e=>∃te,d= .slice te/\T.ty te=some e
 | .unit=>∃fs,d= .struct fs/\Jco T fs.toList .unit 0
 | .fld a r=>∃fs,d= .struct fs/\Jco T fs.toList (.fld a r) 0
def Ji0(T:Tab)(d:TypeDesc):Ty->Bool
 | .int k=>match d with| .int k'=>decide (k'=k)|_=>false
 | .bool=>match d with| .bool=>true|_=>false
 | .str=>match d with| .string=>true|_=>false
 | .flt=>match d with| .float .f64=>true|_=>false
 | .cplx=>match d with| .complex .f64=>true|_=>false
 | .ptr=>match d with| .pointer _=>true|_=>false
 | .mp=>match d with| .map _ _=>true|_=>false
 | .fn=>match d with| .func _ _ _=>true|_=>false
 | .arr n e=>match d with| .array m te=>decide (m=n)&&decide (T.ty te=some e)|_=>false
 | .slice e=>match d with| .slice te=>decide (T.ty te=some e)|_=>false
 | .unit=>match d with| .struct fs=>fieldsB T fs.toList .unit 0|_=>false
 | .fld a r=>match d with| .struct fs=>fieldsB T fs.toList (.fld a r) 0|_=>false
theorem K3v:∀{t:Ty},Ji0 T d t=true->Ja9 T d t
 | .int k,h=>by cases d<;>simp_all [Ji0,Ja9]
 | .bool,h=>by cases d<;>simp_all [Ji0,Ja9]
 | .str,h=>by cases d<;>simp_all [Ji0,Ja9]
 | .flt,h=>by cases d with|float k=>cases k<;>simp_all [Ji0,Ja9]|_=>simp_all [Ji0,Ja9]
 | .cplx,h=>by cases d with|complex k=>cases k<;>simp_all [Ji0,Ja9]|_=>simp_all [Ji0,Ja9]
 | .ptr,h=>by cases d<;>simp_all [Ji0,Ja9]
 | .mp,h=>by cases d<;>simp_all [Ji0,Ja9]
 | .fn,h=>by cases d<;>simp_all [Ji0,Ja9]
 | .arr n e,h=>by cases d<;>simp_all [Ji0,Ja9]
 | .slice e,h=>by cases d<;>simp_all [Ji0,Ja9]
 | .unit,h=>by cases d<;>simp_all [Ji0,Ja9];exact Jil h
 | .fld a r,h=>by cases d<;>simp_all [Ji0,Ja9];exact Jil h
def Jyf:List Value->List Value->Bool
 |[],[]=>true
 |x::xs,y::ys=>(match x,y with| .int k n,.int k' n'=>decide (k=k')&&decide (n=n')| .bool b,.bool b'=>decide (b=b')| .string s,.string s'=>decide (s.data.toList=s'.data.toList)| .float .f64 a,.float .f64 b=>Nat.beq a b| .complex .f64 a b,.complex .f64 c d=>Nat.beq a c&&Nat.beq b d| .pointer none,.pointer none=>true| .map none,.map none=>true| .nilFunc,.nilFunc=>true| .slice none 0 0,.slice none 0 0=>true|_,_=>false)&&Jyf xs ys
 |_,_=>false
theorem Jp3:∀{xs ys:List Value},Jyf xs ys=true->xs=ys
 |[],[],_=>rfl
 | x::xs,y::ys,h=>by
  simp only[Jyf,Bool.and_eq_true]at h;obtain⟨h1,h2⟩:=h;rw[Jp3 h2];have:x=y:=by
   split at h1<;>simp_all
   all_goals first
    |(rename_i s s';cases s;cases s';simp_all)
    |done
  rw[this]
 |[],_::_,h=>by simp[Jyf]at h
 |_::_,[],h=>by simp[Jyf]at h
structure TyI(P:Program)(T:Tab)(t:Nat)(ty:Ty)(by_:Nat):Prop where
 info:∃i,P.info? t=some i/\i.size=ty.size/\i.bytes=by_/\(ty= .mp\/ty= .fn\/i.zero=some (pack ty (J9h ty)))
 desc:∃d,P.underlying t=some d/\Ja9 T d ty
 small:by_<=65536
def tyB(P:Program)(T:Tab)(t:Nat)(ty:Ty)(by_:Nat):Bool:=
  (match P.info? t with
   | some i=>Nat.beq i.size ty.size&&Nat.beq i.bytes by_&&Nat.ble by_ 65536&&(match ty with
     | .mp=>true
     | .fn=>true
     | ty=>match i.zero with
       |some (.agg cs)=>ty.isAgg&&Jyf cs.toList (J9h ty)
       |some v=> !ty.isAgg&&Jyf [v] (J9h ty)
       |none=>false)
   |none=>false)&&
  (match P.underlying t with
   |some d=>Ji0 T d ty
   |none=>false)
theorem Kg3(h:tyB P T t ty by_=true):TyI P T t ty by_:=by
 unfold tyB at h;rw[Bool.and_eq_true]at h;obtain⟨h1,h2⟩:=h;constructor
 ·split at h1
  ·rename_i i hi;refine⟨i,hi, ?_⟩;simp only[Bool.and_eq_true,Nat.beq_eq]at h1;obtain⟨⟨⟨h1,h3⟩,_⟩,h4⟩:=h1;refine⟨h1,h3, ?_⟩;split at h4;·exact .inl rfl
   ·exact .inr (.inl rfl)
   right;right;split at h4;·rename_i cs hz;rw[Bool.and_eq_true]at h4;rw[hz,pack,if_pos h4.1,<-Jp3 h4.2]
   ·rename_i v hv hz;rw[Bool.and_eq_true,Bool.not_eq_true']at h4;rw[hz,pack,if_neg (by rw[h4.1];simp),<-Jp3 h4.2];rfl
   cases h4
  cases h1
 ·split at h2;·rename_i d hd;exact⟨d,hd,K3v h2⟩
  cases h2
 split at h1;·simp_all
 cases h1
def J9a(P:Program)(T:Tab):Prop:=∀t ty by_,T.get t=some (ty,by_)->TyI P T t ty by_
def tabB(P:Program)(T:Tab):Tab->Bool
 |[]=>true
 |(t,ty,b)::r=>tyB P T t ty b&&tabB P T r
theorem K08:∀{R:Tab},tabB P T R=true->∀t ty by_,R.get t=some (ty,by_)->TyI P T t ty by_
 |[],_,_,_,_,h=>by simp[Tab.get]at h
 |(t',ty',b')::r,hb,t,ty,b,h=>by
  simp only[tabB,Bool.and_eq_true]at hb;rw[Tab.get]at h;by_cases e:t'=t;·subst e;simp only[Nat.beq_refl,cond_true,Option.some.injEq,Prod.mk.injEq]at h;obtain⟨rfl,rfl⟩:=h;exact Kg3 hb.1
  have:Nat.beq t' t=false:=(by rw[<-Bool.not_eq_true,Nat.beq_eq];exact e);rw[this,cond_false]at h;exact K08 hb.2 t ty b h
theorem Tab.ty_get{T:Tab}{t:Nat}{ty:Ty}(h:T.ty t=some ty):∃b,T.get t=some (ty,b):=by unfold Tab.ty at h;grind
end Go.Ax

namespace Go.Ax
def K2f:(t:Ty)->t.den->List Step->J8e
 |t,x,[]=>.v t x
 | .fld a _,x,.fld 0::p=>K2f a x.1 p
 | .fld _ r,x,.fld (k+1)::p=>K2f r x.2 (.fld k::p)
 | .arr _ e,xs,.idx i::p=>K2f e (List.getD xs i e.zero) p
 |_,_,_=>.undef
def J8e.get:J8e->List Step->J8e
 |s,[]=>s
 | .v t x,p=>K2f t x p
 | .node a _,.fld 0::p=>a.get p
 | .node _ r,.fld (k+1)::p=>r.get (.fld k::p)
 |_,_=>.undef
def cast? (t t':Ty) (x:t.den):Option t'.den:=if h:t=t' then some (h▸x)else none
def Kcq:(t:Ty)->t.den->List Step->(t':Ty)->t'.den->Option t.den
 |t,_,[],t',y=>cast? t' t y
 | .fld a _,x,.fld 0::p,t',y=>match Kcq a x.1 p t' y with|some z=>some (z,x.2)|none=>none
 | .fld _ r,x,.fld (k+1)::p,t',y=>match Kcq r x.2 (.fld k::p) t' y with|some z=>some (x.1,z)|none=>none
 | .arr _ e,xs,.idx i::p,t',y=>match Kcq e (List.getD xs i e.zero) p t' y with|some z=>some (List.set xs i z)|none=>none
 |_,_,_,_,_=>none
def vput:(t:Ty)->t.den->List Step->J8e->J8e
 |_,_,[],n=>n
 | .fld a r,x,.fld 0::p,n=>.node (vput a x.1 p n) (.v r x.2)
 | .fld a r,x,.fld (k+1)::p,n=>.node (.v a x.1) (vput r x.2 (.fld k::p) n)
 |_,_,_,_=>.undef
def J8e.set:J8e->List Step->J8e->J8e
 |_,[],n=>n
 | .v t x,p,n=>match n with
  | .v t' y=>match Kcq t x p t' y with|some z=>.v t z|none=>.undef
  |n=>vput t x p n
 | .node a r,.fld 0::p,n=>.node (a.set p n) r
 | .node a r,.fld (k+1)::p,n=>.node a (r.set (.fld k::p) n)
 |_,_,_=>.undef
theorem Jaq.le:∀{t:Ty} {p:List Step} {o:Nat} {t':Ty},Jaq t p o t'->o+t'.size<=t.size
 |t,[],_,_,h=>by obtain⟨rfl,rfl⟩:=h;omega
 |t,.idx i::p,_,_,h=>by obtain⟨n,e,o2,rfl,hi,h,rfl⟩:=h;have:=Jaq.le h;simp only[Ty.size];have h2:(i+1)*e.size<=n*e.size:=Nat.mul_le_mul_right _ hi;rw[Nat.add_mul]at h2;omega
 | .fld a r,.fld 0::p,_,_,h=>by obtain⟨o1,t1,o2,hf,h,rfl⟩:=h;simp only[Ty.field,Option.some.injEq,Prod.mk.injEq]at hf;obtain⟨rfl,rfl⟩:=hf;have:=Jaq.le h;simp only[Ty.size];omega
 | .fld a r,.fld (k+1)::p,o,t',h=>by
  obtain⟨o1,t1,o2,hf,h,rfl⟩:=h;simp only[Ty.field]at hf;cases hr:r.field k with
  |none=>rw[hr]at hf;cases hf
  |some z=>obtain⟨z1,z2⟩:=z;rw[hr]at hf;simp only[Option.some.injEq,Prod.mk.injEq]at hf;obtain⟨rfl,rfl⟩:=hf;have:Jaq r (.fld k::p) (z1+o2) t':=⟨z1,z2,o2,hr,h,rfl⟩;have:=Jaq.le this;simp only[Ty.size];omega
 | .int _,.fld k::p,_,_,h=>by obtain⟨_,_,_,hf,_⟩:=h;cases k<;>simp[Ty.field]at hf
 | .bool,.fld k::p,_,_,h=>by obtain⟨_,_,_,hf,_⟩:=h;cases k<;>simp[Ty.field]at hf
 | .str,.fld k::p,_,_,h=>by obtain⟨_,_,_,hf,_⟩:=h;cases k<;>simp[Ty.field]at hf
 | .flt,.fld k::p,_,_,h=>by obtain⟨_,_,_,hf,_⟩:=h;cases k<;>simp[Ty.field]at hf
 | .cplx,.fld k::p,_,_,h=>by obtain⟨_,_,_,hf,_⟩:=h;cases k<;>simp[Ty.field]at hf
 | .ptr,.fld k::p,_,_,h=>by obtain⟨_,_,_,hf,_⟩:=h;cases k<;>simp[Ty.field]at hf
 | .mp,.fld k::p,_,_,h=>by obtain⟨_,_,_,hf,_⟩:=h;cases k<;>simp[Ty.field]at hf
 | .fn,.fld k::p,_,_,h=>by obtain⟨_,_,_,hf,_⟩:=h;cases k<;>simp[Ty.field]at hf
 | .arr _ _,.fld k::p,_,_,h=>by obtain⟨_,_,_,hf,_⟩:=h;cases k<;>simp[Ty.field]at hf
 | .slice _,.fld k::p,_,_,h=>by obtain⟨_,_,_,hf,_⟩:=h;cases k<;>simp[Ty.field]at hf
 | .unit,.fld k::p,_,_,h=>by obtain⟨_,_,_,hf,_⟩:=h;cases k<;>simp[Ty.field]at hf
termination_by t p=>(p.length,SizeOf.sizeOf t)
theorem Jaq.fld_inv(h:Jaq (.fld a r) (.fld k::p) o t'):(k=0/\Jaq a p o t')\/∃j o',k=j+1/\o=a.size+o'/\Jaq r (.fld j::p) o' t':=by
 obtain⟨o1,t1,o2,hf,h,rfl⟩:=h;cases k with
 |zero=>simp only[Ty.field,Prod.mk.injEq]at hf;grind
 |succ k=>
  simp only[Ty.field]at hf;cases hr:r.field k with
  |none=>rw[hr]at hf;cases hf
  |some z=>obtain⟨z1,z2⟩:=z;rw[hr]at hf;simp at hf;obtain⟨rfl,rfl⟩:=hf;exact .inr ⟨k,z1+o2,rfl,by omega,⟨z1,z2,o2,hr,h,rfl⟩⟩
theorem Cat.at{R:List Value->α->Prop}{sz:Nat}(hl:∀cs x,R cs x->cs.length=sz) d:∀{cs:List Value} {xs:List α} {i:Nat},Cat R cs xs->i<xs.length->R ((cs.drop (i*sz)).take sz) (xs.getD i d):=by
 intro cs xs;induction xs generalizing cs with
 |nil=>intro i _ h;simp at h
 |cons x xs ih=>rintro i ⟨c1,c2,rfl,h1,h2⟩ hi;have hl1:=hl _ _ h1;cases i with|zero=>grind|succ i=>rw[Nat.add_mul,Nat.one_mul,Nat.add_comm,<-List.drop_drop,<-hl1,List.drop_left' rfl,hl1];exact ih h2 (by simpa using hi)
theorem Cat.put{R:List Value->α->Prop}{sz:Nat}(hl:∀cs x,R cs x->cs.length=sz){n:List Value}{y:α}(hn:R n y):∀{cs:List Value} {xs:List α} {i:Nat},Cat R cs xs->i<xs.length->Cat R (cs.take (i*sz)++n++cs.drop (i*sz+sz)) (xs.set i y):=by
 intro cs xs;induction xs generalizing cs with
 |nil=>intro i _ h;simp at h
 |cons x xs ih=>rintro i ⟨c1,c2,rfl,h1,h2⟩ hi;have hl1:=hl _ _ h1;cases i with|zero=>simp;exact⟨n,c2,by rw[<-hl1,List.drop_left' rfl],hn,h2⟩|succ i=>rw[List.set_cons_succ];have h3:=ih h2 (by simpa using hi);refine⟨c1,_, ?_,h1,h3⟩;have e0:(i+1)*sz=sz+i*sz:=(by rw[Nat.add_mul,Nat.one_mul,Nat.add_comm]);rw[e0];have e2:List.drop (sz+i*sz+sz) (c1++c2)=c2.drop (i*sz+sz):=(by rw[Nat.add_assoc,<-hl1,List.drop_length_add_append]);grind
theorem Jli(l:List α) o s a b (h:o+s<=b):(((l.drop a).take b).drop o).take s=(l.drop (a+o)).take s:=by rw[List.drop_take,List.drop_drop,List.take_take,Nat.min_eq_left (by omega)]
theorem Jzz{cs:List Value}{n o s:Nat}(h:cs.length=n)(h2:o+s<=n):((cs.drop o).take s).length=s:=by grind
theorem Jt3{w:World}{ok:Nat->Prop}:∀{t:Ty} {x:t.den} {p:List Step} {o:Nat} {t':Ty} {cs:List Value},J92 w ok t cs x->Jaq t p o t'->J90 G w ok (K2f t x p) t' ((cs.drop o).take t'.size):=by
 intro t x p;fun_induction K2f t x p with
 |case1 t x=>
  intro o t' cs h hp
  obtain⟨rfl,rfl⟩:=hp
  rw[List.drop_zero,<-J92.len _ h,List.take_length]
  exact⟨rfl,h⟩
 | case2 a r x p ih=>
  intro o t' cs h hp
  obtain⟨c1,c2,rfl,h1,h2⟩:=h
  rcases Jaq.fld_inv hp with⟨_,hp⟩|⟨j,_,hk,_⟩
  ·have hle:=Jaq.le hp
   rw[<-J92.len _ h1]at hle
   grind
  ·cases hk
 | case3 a r x k p ih=>
  intro o t' cs h hp
  obtain⟨c1,c2,rfl,h1,h2⟩:=h
  rcases Jaq.fld_inv hp with⟨hk,_⟩|⟨j,o',hk,rfl,hp⟩
  ·cases hk
  ·cases hk
   have:=ih h2 hp
   rwa[<-J92.len _ h1,List.drop_length_add_append]
 |case4 n e xs i p ih=>
  intro o t' cs h hp
  obtain⟨hn,hc⟩:=h
  obtain⟨n',e',o2,heq,hi,hp,rfl⟩:=hp
  cases heq
  have h1:=Cat.at (λcs x=>J92.len e) e.zero hc (by rw[hn];exact hi)
  have:=ih h1 hp
  rwa[Jli _ _ _ _ _ (Jaq.le hp)]at this
 |case5 t x p h1 h2 h3 h4=>
  intro o t' cs h hp
  exact Jzz (J92.len _ h) (Jaq.le hp)
theorem J8e.get_ok{w:World}{ok:Nat->Prop}:∀{s:J8e} {p:List Step} {t:Ty} {o:Nat} {t':Ty} {cs:List Value},J90 G w ok s t cs->Jaq t p o t'->J90 G w ok (s.get p) t' ((cs.drop o).take t'.size):=by
 intro s p;fun_induction J8e.get s p with
 |case1 s=>
  intro t o t' cs h hp
  obtain⟨rfl,rfl⟩:=hp
  rw[List.drop_zero,<-J90.len _ h,List.take_length];exact h
 |case2 t0 x p hp0=>
  intro t o t' cs h hp
  obtain⟨rfl,h⟩:=h
  exact Jt3 h hp
 | case3 a r p ih=>
  intro t o t' cs h hp
  obtain⟨ta,tr,rfl,c1,c2,rfl,h1,h2⟩:=h
  rcases Jaq.fld_inv hp with⟨_,hp⟩|⟨j,_,hk,_⟩
  ·have hle:=Jaq.le hp
   rw[<-J90.len _ h1]at hle
   grind
  ·cases hk
 | case4 a r k p ih=>
  intro t o t' cs h hp
  obtain⟨ta,tr,rfl,c1,c2,rfl,h1,h2⟩:=h
  rcases Jaq.fld_inv hp with⟨hk,_⟩|⟨j,o',hk,rfl,hp⟩
  ·cases hk
  ·cases hk
   have:=ih h2 hp
   rwa[<-J90.len _ h1,List.drop_length_add_append]
 |case5 s p=>
  intro t o t' cs h hp
  exact Jzz (J90.len _ h) (Jaq.le hp)
def splice(cs:List Value)(o:Nat)(n:List Value):List Value:=cs.take o++n++cs.drop (o+n.length)
theorem Jfd(h:o+n.length<=cs.length):(splice cs o n).length=cs.length:=by simp only[splice,List.length_append,List.length_take,List.length_drop];omega
theorem Jiv(h:n.length=cs.length):splice cs 0 n=n:=by simp[splice,h]
theorem Je5(h:o+n.length<=c1.length):splice (c1++c2) o n=splice c1 o n++c2:=by simp only[splice];grind
theorem Jei:splice (c1++c2) (c1.length+o) n=c1++splice c2 o n:=by simp only[splice];rw[List.take_length_add_append,Nat.add_assoc,List.drop_length_add_append];simp
theorem K6w(h:o+n.length<=b)(hb:a+b<=cs.length):splice cs (a+o) n=cs.take a++splice ((cs.drop a).take b) o n++cs.drop (a+b):=by
 have e1:cs=cs.take a++((cs.drop a).take b++cs.drop (a+b)):=by conv=>lhs;rw[<-List.take_append_drop a cs,<-List.take_append_drop b (cs.drop a),List.drop_drop]
 have hl1:(cs.take a).length=a:=by rw[List.length_take];omega
 have hl2:((cs.drop a).take b).length=b:=by rw[List.length_take,List.length_drop];omega
 generalize cs.take a=A at*
 generalize (cs.drop a).take b=B at*
 generalize cs.drop (a+b)=D at*
 rw[e1,<-hl1,Jei,Je5 (by rw[hl2];exact h)];simp only[List.append_assoc]
theorem Kgb{w:World}{ok:Nat->Prop}:∀{t:Ty} {x:t.den} {p:List Step} {t':Ty} {y:t'.den} {z:t.den} {o:Nat} {cs n:List Value},J92 w ok t cs x->Jaq t p o t'->J92 w ok t' n y->Kcq t x p t' y=some z->J92 w ok t (splice cs o n) z:=by
 intro t x p t' y;fun_induction Kcq t x p t' y with
 |case1 t t0 x y=>
  intro z o cs n h hp hn hz
  obtain⟨rfl,rfl⟩:=hp
  simp only[cast?,dif_pos,Option.some.injEq]at hz
  subst hz
  rw[Jiv (by rw[J92.len _ h,J92.len _ hn])];exact hn
 | case2 a r x p t' y z hz ih=>
  intro z' o cs n h hp hn hz'
  cases hz'
  obtain⟨c1,c2,rfl,h1,h2⟩:=h
  rcases Jaq.fld_inv hp with⟨_,hp⟩|⟨j,_,hk,_⟩
  ·have hle:=Jaq.le hp
   rw[<-J92.len _ h1,<-J92.len _ hn]at hle
   exact⟨_,_,Je5 hle,ih h1 hp hn hz,h2⟩
  ·cases hk
 |case3=>intro z o cs n h hp hn hz;cases hz
 | case4 a r x k p t' y z hz ih=>
  intro z' o cs n h hp hn hz'
  cases hz'
  obtain⟨c1,c2,rfl,h1,h2⟩:=h
  rcases Jaq.fld_inv hp with⟨hk,_⟩|⟨j,o',hk,rfl,hp⟩
  ·cases hk
  ·cases hk
   rw[<-J92.len _ h1,Jei]
   exact⟨_,_,rfl,h1,ih h2 hp hn hz⟩
 |case5=>intro z o cs n h hp hn hz;cases hz
 |case6 m e i p t1 z xs y hz ih=>
  intro z' o cs n h hp hn hz'
  cases hz'
  obtain⟨hm,hc⟩:=h
  obtain⟨n',e',o2,heq,hi,hp,rfl⟩:=hp
  cases heq
  have h1:=Cat.at (λcs x=>J92.len e) e.zero hc (by rw[hm];exact hi)
  have h2:=ih h1 hp hn hz
  have hle:=Jaq.le hp
  rw[<-J92.len _ hn]at hle
  have hlen:=Cat.len (λcs x=>J92.len e) hc
  have hi2:(i+1)*e.size<=m*e.size:=Nat.mul_le_mul_right _ hi
  rw[Nat.add_mul,Nat.one_mul]at hi2
  rw[K6w hle (by rw[hlen,hm];exact hi2)]
  exact⟨by rw[List.length_set];exact hm,Cat.put (R:=J92 w ok e) (λcs x=>J92.len e) h2 hc (by rw[hm];exact hi)⟩
 |case7=>intro z o cs n h hp hn hz;cases hz
 |case8=>intro z o cs n h hp hn hz;cases hz
theorem Jhd(h:cs.length=t.size)(hp:Jaq t p o t')(hn:n.length=t'.size):J90 G w ok .undef t (splice cs o n):=by have:=Jaq.le hp;show(splice cs o n).length=t.size;rw[Jfd (by rw[h,hn];exact this),h]
theorem Kga:∀{t:Ty} {x:t.den} {p:List Step} {s:J8e} {o:Nat} {t':Ty} {cs n:List Value},J92 w ok t cs x->Jaq t p o t'->J90 G w ok s t' n->J90 G w ok (vput t x p s) t (splice cs o n):=by
 intro t x p s;fun_induction vput t x p s with
 |case1 t x s=>
  intro o t' cs n h hp hn
  obtain⟨rfl,rfl⟩:=hp
  rw[Jiv (by rw[J92.len _ h,J90.len _ hn])];exact hn
 | case2 a r x p s ih=>
  intro o t' cs n h hp hn
  obtain⟨c1,c2,rfl,h1,h2⟩:=h
  rcases Jaq.fld_inv hp with⟨_,hp⟩|⟨j,_,hk,_⟩
  ·have hle:=Jaq.le hp
   rw[<-J92.len _ h1,<-J90.len _ hn]at hle
   exact⟨a,r,rfl,_,_,Je5 hle,ih h1 hp hn,rfl,h2⟩
  ·cases hk
 | case3 a r x k p s ih=>
  intro o t' cs n h hp hn
  obtain⟨c1,c2,rfl,h1,h2⟩:=h
  rcases Jaq.fld_inv hp with⟨hk,_⟩|⟨j,o',hk,rfl,hp⟩
  ·cases hk
  ·cases hk
   rw[<-J92.len _ h1,Jei]
   exact⟨a,r,rfl,_,_,rfl,⟨rfl,h1⟩,ih h2 hp hn⟩
 |case4 t x p s h1 h2 h3=>
  intro o t' cs n h hp hn
  exact Jhd (J92.len _ h) hp (J90.len _ hn)
theorem J8e.set_ok:∀{s:J8e} {p:List Step} {s':J8e} {t:Ty} {o:Nat} {t':Ty} {cs n:List Value},J90 G w ok s t cs->Jaq t p o t'->J90 G w ok s' t' n->J90 G w ok (s.set p s') t (splice cs o n):=by
 intro s p s';fun_induction J8e.set s p s' with
 |case1 s s'=>
  intro t o t' cs n h hp hn
  obtain⟨rfl,rfl⟩:=hp
  rw[Jiv (by rw[J90.len _ h,J90.len _ hn])];exact hn
 |case2 t0 x p hp0 t1 y z hz=>
  intro t o t' cs n h hp hn
  obtain⟨rfl,h⟩:=h
  obtain⟨rfl,hn⟩:=hn
  exact⟨rfl,Kgb h hp hn hz⟩
 |case3 t0 x p hp0 t1 y hz=>
  intro t o t' cs n h hp hn
  exact Jhd (J90.len _ h) hp (J90.len _ hn)
 |case4 t0 x p hp0 s' hs'=>
  intro t o t' cs n h hp hn
  obtain⟨rfl,h⟩:=h
  exact Kga h hp hn
 | case5 a r p s' ih=>
  intro t o t' cs n h hp hn
  obtain⟨ta,tr,rfl,c1,c2,rfl,h1,h2⟩:=h
  rcases Jaq.fld_inv hp with⟨_,hp⟩|⟨j,_,hk,_⟩
  ·have hle:=Jaq.le hp
   rw[<-J90.len _ h1,<-J90.len _ hn]at hle
   exact⟨ta,tr,rfl,_,_,Je5 hle,ih h1 hp hn,h2⟩
  ·cases hk
 | case6 a r k p s' ih=>
  intro t o t' cs n h hp hn
  obtain⟨ta,tr,rfl,c1,c2,rfl,h1,h2⟩:=h
  rcases Jaq.fld_inv hp with⟨hk,_⟩|⟨j,o',hk,rfl,hp⟩
  ·cases hk
  ·cases hk
   rw[<-J90.len _ h1,Jei]
   exact⟨ta,tr,rfl,_,_,rfl,h1,ih h2 hp hn⟩
 |case7 s p s'=>
  intro t o t' cs n h hp hn
  exact Jhd (J90.len _ h) hp (J90.len _ hn)
end Go.Ax

namespace Go.Ax
variable {P : Program} {T : Tab}
theorem TyI.run_info(h:TyI P T t ty b) w:∃i,(typeInfo t).run P w= .ok i w/\i.size=ty.size/\i.bytes=b/\ (ty= .mp\/ty= .fn\/i.zero=some (pack ty (J9h ty))):=by obtain⟨i,hi,h1,h2,h3⟩:=h.info;exact⟨i,by simp[typeInfo,hi],h1,h2,h3⟩
theorem TyI.run_size(h:TyI P T t ty b) w:(sizeOf t).run P w= .ok ty.size w:=by obtain⟨i,hi,h1,_⟩:=h.run_info w;simp[sizeOf,hi,h1]
theorem TyI.run_zero(h:TyI P T t ty b)(h1:ty≠.mp)(h2:ty≠.fn) w:(zeroValue t).run P w= .ok (pack ty (J9h ty)) w:=by
 obtain⟨i,hi,_,_,h3⟩:=h.run_info w;rcases h3 with h3|h3|h3;·exact absurd h3 h1
 ·exact absurd h3 h2
 simp[zeroValue,hi,h3]
theorem TyI.run_under(h:TyI P T t ty b) w:∃d,(underlying t).run P w= .ok d w/\Ja9 T d ty:=by obtain⟨d,hd,h1⟩:=h.desc;exact⟨d,by simp[underlying,hd],h1⟩
theorem TyI.run_isAgg(h:TyI P T t ty b) w:(isAgg t).run P w= .ok ty.isAgg w:=by
 obtain⟨d,hd,h1⟩:=h.run_under w;simp only[Go.isAgg,Sem.run_bind,hd,Result.andThen_ok];cases ty with
 |arr n e=>obtain⟨_,rfl,_⟩:=h1;rfl
 |slice e=>obtain⟨_,rfl,_⟩:=h1;rfl
 |unit=>obtain⟨_,rfl,_⟩:=h1;rfl
 |fld a r=>obtain⟨_,rfl,_⟩:=h1;rfl
 |ptr=>obtain⟨_,rfl⟩:=h1;rfl
 |mp=>obtain⟨_,_,rfl⟩:=h1;rfl
 |fn=>obtain⟨_,_,_,rfl⟩:=h1;rfl
 |int k=>simp only[Ja9]at h1;subst h1;rfl
 |bool=>simp only[Ja9]at h1;subst h1;rfl
 |str=>simp only[Ja9]at h1;subst h1;rfl
 |flt=>simp only[Ja9]at h1;subst h1;rfl
 |cplx=>simp only[Ja9]at h1;subst h1;rfl
theorem add_plain b o i:(⟨b,o,none⟩:Addr).add i=⟨b,o+i,none⟩:=by unfold Addr.add;grind
theorem run_loadCellsFrom(w:World) b o (cs:List Value):∀(n i:Nat) (acc:Array Value),i+n=cs.length->(∀j,j<cs.length->w.cell? ⟨b,o+j,none⟩=cs[j]?)->
  acc.toList=cs.take i->(loadCellsFrom ⟨b,o,none⟩ i n acc).run P w= .ok cs.toArray w
 |0,i,acc,h,_,ha=>by have:acc.toList=cs:=(by rw[ha,List.take_of_length_le (by omega)]);simp[loadCellsFrom,<-this]
 |n+1,i,acc,h,hc,ha=>by have hi:i<cs.length:=(by omega);have hci:=hc i hi;rw[List.getElem?_eq_getElem hi]at hci;simp only[loadCellsFrom,add_plain,Sem.run_bind,run_load,hci,Result.andThen_ok];refine run_loadCellsFrom w b o cs n (i+1) _ (by omega) hc ?_;simp_all
theorem run_loadCells{cs:List Value}(h:∀j,j<cs.length->w.cell? ⟨b,o+j,none⟩=cs[j]?){n:Nat}(hn:n=cs.length):(loadCells ⟨b,o,none⟩ n).run P w= .ok cs.toArray w:=run_loadCellsFrom w b o cs n 0 #[] (by omega) h rfl
theorem Jg2(h:TyI P T t ty by_){w:World}{b o:Nat}{cs:List Value}(hl:cs.length=ty.size)(hc:∀j,j<cs.length->w.cell? ⟨b,o+j,none⟩=cs[j]?):(loadVar t ⟨b,o,none⟩).run P w= .ok (pack ty cs) w:=by simp only[loadVar,Sem.run_bind,h.run_isAgg w,Result.andThen_ok];unfold pack;cases ha:ty.isAgg with|true=>simp[h.run_size w,run_loadCells hc hl.symm]|false=>have h1:ty.size=1:=(by cases ty<;>simp_all [Ty.isAgg,Ty.size]);have h2:=hc 0 (by omega);cases cs with|nil=>simp[h1]at hl|cons v r=>simp[Nat.add_zero]at h2;simp[h2]
structure Wrote(w w':World)(b:Nat)(c:Array Value)(T:TypeId):Prop where
 here:w'.heap[b]? =some (.cells c T (0,0))
 other:∀k,k≠b->w'.heap[k]? =w.heap[k]?
 size:w'.heap.size=w.heap.size
 os:w'.os=w.os
 tape:w'.tape=w.tape
 output:w'.output=w.output
structure K2r(w w':World)(b:Nat):Prop where
 other:∀k,k≠b->w'.heap[k]? =w.heap[k]?
 size:w'.heap.size=w.heap.size
 os:w'.os=w.os
 tape:w'.tape=w.tape
 output:w'.output=w.output
theorem Wrote.base{c:Array Value}{T:TypeId}(h:Wrote w w' b c T):K2r w w' b:=⟨h.other,h.size,h.os,h.tape,h.output⟩
theorem Wrote.trans{c c1:Array Value}{T:TypeId}(h:Wrote w w1 b c T)(k:Wrote w1 w2 b c1 T):Wrote w w2 b c1 T:=⟨k.here,λi hi=>(k.other i hi).trans (h.other i hi),k.size.trans h.size,k.os.trans h.os,k.tape.trans h.tape,k.output.trans h.output⟩
theorem Jt7{c:Array Value}{T:TypeId}(h:w.heap[b]? =some (.cells c T (0,0))) v:Wrote w (w.setCell ⟨b,o,none⟩ v) b (c.setIfInBounds o v) T:=by refine⟨?_,λk hk=>RowKit.Below.heap_setCell _ _ _ _ hk,by simp,rfl,rfl,rfl⟩;simp only[World.setCell,Array.getElem?_modify,if_true,h,Option.map_some];simp
theorem cell?_here {w:World} {b:Nat} {c:Array Value} {T:TypeId} {f:Nat×Nat} (h:w.heap[b]? =some (.cells c T f)) (o:Nat):w.cell? ⟨b,o,none⟩=c[o]?:=by simp[World.cell?,h]
theorem Jqq(c:Array Value)(o:Nat) v (h:o<c.size):(c.setIfInBounds o v).toList=splice c.toList o [v]:=by rw[Array.toList_setIfInBounds,splice];simp only[List.length_cons,List.length_nil,Nat.zero_add];rw[List.set_eq_take_append_cons_drop,if_pos (by simpa using h)];simp
theorem Jk6(cs n:List Value)(o:Nat) v (h:o+(v::n).length<=cs.length):splice (splice cs o [v]) (o+1) n=splice cs o (v::n):=by
 simp only[splice,List.length_cons,List.length_nil,Nat.zero_add];have hl:(cs.take o).length=o:=by rw[List.length_take];simp at h;omega
 generalize hA:cs.take o=A at*
 have e:A++[v]++cs.drop (o+1)=(A++[v])++cs.drop (o+1):=rfl;have hl2:(A++[v]).length=o+1:=by simp[hl]
 rw[List.take_append_of_le_length (by omega),List.take_of_length_le (by omega)];rw[<-hl2,List.drop_length_add_append,List.drop_drop];grind
theorem Jcp{T:TypeId} b o:∀(vs:List Value) (i:Nat) (w:World) (c:Array Value),w.heap[b]? =some (.cells c T (0,0))->o+i+vs.length<=c.size->
  (∀v∈vs,v.oneCell'=true)->∃w' c',(storeCells ⟨b,o,none⟩ vs i).run P w= .ok () w'/\Wrote w w' b c' T/\c'.toList=splice c.toList (o+i) vs
 |[],i,w,c,h,_,_=>⟨w,c,by simp[storeCells],⟨h,λ_ _=>rfl,rfl,rfl,rfl,rfl⟩,by simp[splice]⟩
 |v::vs,i,w,c,h,hl,hv=>by
  simp only[List.length_cons]at hl;have hcell:w.cell? ⟨b,o+i,none⟩=some (c[o+i]'(by omega)):=(by rw[cell?_here h,Array.getElem?_eq_getElem]);have hfr:w.frozen? ⟨b,o+i,none⟩=false:=(by simp[World.frozen?,h]);have hw1:=Jt7 (o:=o+i) h v;obtain⟨w',c',h1,h2,h3⟩:=Jcp b o vs (i+1) (w.setCell ⟨b,o+i,none⟩ v) _ hw1.here (by rw[Array.size_setIfInBounds];omega) (λu hu=>hv u (List.mem_cons_of_mem _ hu))
  refine⟨w',c', ?_,hw1.trans h2, ?_⟩;·simp only[storeCells,add_plain,Sem.run_bind];rw[run_store P w _ v _ (hv v (List.mem_cons_self ..)),hcell];simp_all
  rw[h3,Jqq _ _ _ (by omega),<-Nat.add_assoc o i 1,Jk6];omega
def J8e.solid:J8e->Bool
 | .undef=>false
 | .node a r=>a.solid&&r.solid
 | .tup _ _=>false
 | .tnil=>false
 |_=>true
theorem Cat.all{R:List Value->α->Prop}(h:∀cs x,R cs x->∀v∈cs,v.oneCell'=true):∀{cs:List Value} {xs:List α},Cat R cs xs->∀v∈cs,v.oneCell'=true:=by
 intro cs xs;induction xs generalizing cs with
 |nil=>intro h v hv;simp only[Cat]at h;subst h;cases hv
 |cons x xs ih=>rintro⟨c1,c2,rfl,h1,h2⟩ v hv;grind
theorem J92.cells{ok:Nat->Prop}:∀(t:Ty) {cs:List Value} {x:t.den},J92 w ok t cs x->∀v∈cs,v.oneCell'=true
 | .int k,cs,x,h,v,hv=>by simp only[J92]at h;subst h;simp at hv;subst hv;rfl
 | .bool,cs,x,h,v,hv=>by simp only[J92]at h;subst h;simp at hv;subst hv;rfl
 | .str,cs,x,h,v,hv=>by simp only[J92]at h;subst h;simp at hv;subst hv;rfl
 | .flt,cs,x,h,v,hv=>by obtain⟨_,rfl⟩:=h;simp at hv;subst hv;rfl
 | .cplx,cs,x,h,v,hv=>by obtain⟨_,rfl⟩:=h;simp at hv;subst hv;rfl
 | .ptr,_,_,h,_,_=>h.elim
 | .mp,_,_,h,_,_=>h.elim
 | .fn,_,_,h,_,_=>h.elim
 | .arr n e,cs,xs,h,v,hv=>Cat.all (λcs x=>J92.cells e) h.2 v hv
 | .slice e,cs,xs,h,v,hv=>by obtain⟨a,c,rfl,_⟩:=h;simp at hv;subst hv;rfl
 | .unit,cs,_,h,v,hv=>by simp only[J92]at h;subst h;cases hv
 | .fld a r,cs,x,h,v,hv=>by
  obtain⟨c1,c2,rfl,h1,h2⟩:=h;rcases List.mem_append.1 hv with hv|hv;·exact J92.cells a h1 v hv
  exact J92.cells r h2 v hv
theorem J90.cells:∀(s:J8e) {t:Ty} {cs:List Value},s.solid=true->J90 G w ok s t cs->∀v∈cs,v.oneCell'=true
 | .undef,_,_,q,_,_,_=>by cases q
 | .v t x,_,_,_,h,v,hv=>J92.cells _ h.2 v hv
 | .nil,_,_,_,h,v,hv=>by obtain⟨_,rfl⟩:=h;simp at hv;subst hv;rfl
 | .nilp,_,_,_,h,v,hv=>by obtain⟨_,rfl⟩:=h;simp at hv;subst hv;rfl
 | .own l p,_,_,_,h,v,hv=>by obtain⟨g,u,_,rfl,hu⟩:=h;simp at hv;subst hv;obtain⟨_,_,_,rfl⟩|⟨_,b,o,n,e,_,_,_,rfl⟩:=hu<;>rfl
 | .ptr l p,_,_,_,h,v,hv=>by obtain⟨_,g,u,_,rfl,_,_,_,_,_,_,rfl⟩:=h;simp at hv;subst hv;rfl
 | .ref t x,_,_,_,h,v,hv=>by obtain⟨_,b,o,cs',rfl,_⟩:=h;simp at hv;subst hv;rfl
 | .fn f cap,_,_,_,h,v,hv=>by obtain⟨_,vs,rfl,_⟩:=h;simp at hv;subst hv;rfl
 | .mp l,_,_,_,h,v,hv=>by obtain⟨_,g,b,_,_,_,rfl⟩:=h;simp at hv;subst hv;rfl
 | .anyb,_,_,_,h,v,hv=>by obtain⟨_,b,rfl⟩:=h;simp at hv;subst hv;rfl
 | .node a r,_,_,q,h,v,hv=>by
  simp only[J8e.solid,Bool.and_eq_true]at q;obtain⟨ta,tr,_,c1,c2,rfl,h1,h2⟩:=h;rcases List.mem_append.1 hv with hv|hv;·exact J90.cells a q.1 h1 v hv
  exact J90.cells r q.2 h2 v hv
 | .tup _ _,_,_,q,_,_,_=>by cases q
 | .tnil,_,_,q,_,_,_=>by cases q
theorem pack_cells(hl:cs.length=ty.size)(hc:∀v∈cs,v.oneCell'=true):(pack ty cs).cells.toList=cs:=by
 unfold pack;cases ha:ty.isAgg with
 |true=>simp[Value.cells]
 |false=>
  have h1:ty.size=1:=(by cases ty<;>simp_all [Ty.isAgg,Ty.size]);match cs,hl,hc with
  |[v],_,hc=>have:=hc v (by simp);cases v<;>simp_all [Value.cells,Value.oneCell']
  |[],hl,_=>simp[h1]at hl
  |_::_::_,hl,_=>simp[h1]at hl
theorem Jvd(h:TyI P T t ty by_)(hl:cs.length=ty.size)(hc:∀v∈cs,v.oneCell'=true)(hb:w.heap[b]? =some (.cells c U (0,0)))(hs:o+ty.size<=c.size):∃w' c',(storeVar t ⟨b,o,none⟩ (pack ty cs)).run P w= .ok () w'/\Wrote w w' b c' U/\c'.toList=splice c.toList o cs:=by
 have hp:=pack_cells hl hc;obtain⟨w',c',h1,h2,h3⟩:=Jcp (P:=P) b o cs 0 w c hb (by omega) hc;refine⟨w',c', ?_,h2,by simpa using h3⟩;have hsz:(pack ty cs).cells.size=ty.size:=by rw[<-Array.length_toList,hp,hl]
 simp only[storeVar,Sem.run_bind,h.run_size w,Result.andThen_ok,hsz,ne_eq,not_true_eq_false,if_false,hp];simpa using h1
end Go.Ax

namespace Go.Ax
variable {P : Program} {T : Tab}
theorem Jgv{h:List α}{l:Nat}{o o':α}(hl:h[l]? =some o)(k:Nat):(h.set l o')[k]? =if k=l then some o' else h[k]?:=by grind
theorem Juw{h:List J8g}{l:Nat}{o o':J8g}(hl:h[l]? =some o)(e:o'.live=o.live)(b:Nat):Jge G (h.set l o') b↔Jge G h b:=by
 constructor
 ·rintro⟨k,x,g,h1,h2,h3,h4⟩;rw[Jgv hl]at h1;by_cases hk:k=l;·subst hk;rw[if_pos rfl]at h1;injection h1 with h1;subst h1;exact⟨k,o,g,hl,h2,by rw[<-e];exact h3,h4⟩
  rw[if_neg hk]at h1;exact⟨k,x,g,h1,h2,h3,h4⟩
 rintro⟨k,x,g,h1,h2,h3,h4⟩;by_cases hk:k=l;·subst hk;rw[hl]at h1;injection h1 with h1;subst h1;exact⟨k,o',g,by rw[Jgv hl,if_pos rfl],h2,by rw[e];exact h3,h4⟩
 exact⟨k,x,g,by rw[Jgv hl,if_neg hk];exact h1,h2,h3,h4⟩
theorem Kel(hl:h[l]? =some o)(e:o'.live=o.live)(hs:w'.heap.size=w.heap.size):okB c G (h.set l o') w'=okB c G h w:=by funext b;simp only[okB,Juw hl e,hs]
theorem HRG.wrote0{h:List J8g}{w w':World}{b:Nat}{l:Nat}{o o':J8g}{g:GE}(hh:HRG c G h w)(hl:h[l]? =some o)(hg:G[l]? =some g)(hlive:o.live=true)(hb:g.blk=some b)(hw:K2r w w' b)(e:o'.live=true)(hd:o'.isDead=false)(hr:J9c w w' (okB c G h w) (okB c G h w)->Jet G w' (okB c G h w) g o'):HRG c G (h.set l o') w'/\okB c G (h.set l o') w'=okB c G h w/\J9c w w' (okB c G h w) (okB c G h w):=by
 have e':o'.live=o.live:=(by rw[e,hlive]);have hok:okB c G (h.set l o') w'=okB c G h w:=Kel hl e' hw.size;have hown:Jge G h b:=⟨l,o,g,hl,hg,hlive,hb⟩;have hdead:o.isDead=false:=(by cases o<;>simp_all [J8g.live,J8g.isDead]);have k:J9c w w' (okB c G h w) (okB c G h w):=(by refine⟨λ_ h=>h,λb' o' v hb' hv=> ?_⟩;have hne:b'≠b:=λe=>hb'.2.2 (e▸hown);rw[cell?_of_heap (hw.other b' hne)];exact hv);refine⟨?_,hok,k⟩
 refine { EA:=hh.EA,len:=by rw[List.length_set];exact hh.len,inj:= ?_,inE:= ?_,inL:= ?_,frame:= ?_,big:=by rw[hw.size];exact hh.big,
          os:=hw.os.trans hh.os,tape:=hw.tape.trans hh.tape,output:=hw.output.trans hh.output,objs:= ?_}
 ·intro l1 l2 g1 g2 o1 o2 b' hg1 hg2 ho1 ho2 hd1 hd2 hb1 hb2;rw[Jgv hl]at ho1 ho2;have f:∀(l1:Nat) (o1:J8g),(if l1=l then some o' else h[l1]?)=some o1->o1.isDead=false->∃o2,h[l1]? =some o2/\o2.isDead=false:=(by grind);obtain⟨x1,hx1,hy1⟩:=f l1 o1 ho1 hd1;obtain⟨x2,hx2,hy2⟩:=f l2 o2 ho2 hd2;exact hh.inj l1 l2 g1 g2 x1 x2 b' hg1 hg2 hx1 hx2 hy1 hy2 hb1 hb2
 ·intro l1 o1 g1 b' ho1 hg1 hd1 hb1;rw[Jgv hl]at ho1;rw[hw.size];by_cases hk:l1=l;·subst hk;exact hh.inE l1 o g1 b' hl hg1 hdead hb1
  rw[if_neg hk]at ho1;exact hh.inE l1 o1 g1 b' ho1 hg1 hd1 hb1
 ·intro b' hb';exact hh.inL b' ((Juw hl e' b').1 hb')
 ·intro b' hb' hL;have hne:b'≠b:=by
   rintro rfl;rcases hh.inL _ hown with h1|h1;·exact hL h1
   omega
  rw[hw.other _ hne];exact hh.frame _ hb' hL
 intro l1 o1 g1 ho1 hg1;rw[hok];rw[Jgv hl]at ho1;by_cases hk:l1=l;·grind
 rw[if_neg hk]at ho1;cases hd1:o1.isDead with
 |true=>cases o1<;>simp[J8g.isDead]at hd1;trivial
 |false=>refine Jet.mono (Ext.refl G) k (λb' hb'=>hw.other b' ?_) o1 (hh.objs l1 o1 g1 ho1 hg1);rintro rfl;exact hk (hh.inj l1 l g1 g o1 o _ hg1 hg ho1 hl hd1 hdead hb' hb)
theorem HRG.wrote(hh:HRG c G h w)(hl:h[l]? =some o)(hg:G[l]? =some g)(hlive:o.live=true)(hb:g.blk=some b)(hw:Wrote w w' b cs U)(e:o'.live=true)(hd:o'.isDead=false)(hr:J9c w w' (okB c G h w) (okB c G h w)->Jet G w' (okB c G h w) g o'):HRG c G (h.set l o') w'/\okB c G (h.set l o') w'=okB c G h w/\J9c w w' (okB c G h w) (okB c G h w):=hh.wrote0 hl hg hlive hb hw.base e hd hr
def J8g.freeze:J8g->J8g
 | .row e xs _=>.row e xs false
 | .box t s _=>.box t s false
 | .map k v es _=>.map k v es false
 | .dead=>.dead
theorem J8g.live_freeze(o:J8g):o.freeze.live=false:=by cases o<;>rfl
theorem J8g.isDead_freeze(o:J8g):o.freeze.isDead=o.isDead:=by cases o<;>rfl
theorem Jet.freeze(o:J8g)(h:Jet G w ok g o):Jet G w ok g o.freeze:=by cases o<;>exact h
theorem HRG.shrink(hh:HRG c G h w)(hlen:h'.length=h.length)(hs:∀(l:Nat) (o o':J8g),h[l]? =some o->h'[l]? =some o'->o'=o\/o'=o.freeze\/o'= .dead):HRG c G h' w/\J9c w w (okB c G h w) (okB c G h' w):=by
 have back:∀(l:Nat) (o':J8g),h'[l]? =some o'->∃o,h[l]? =some o/\(o'=o\/o'=o.freeze\/o'= .dead):=(by grind);have nd:∀(o o':J8g),(o'=o\/o'=o.freeze\/o'= .dead)->o'.isDead=false->o.isDead=false:=by
  rintro o o' (rfl|rfl|rfl) hd;·exact hd
  ·rwa[J8g.isDead_freeze]at hd
  cases hd
 have lv:∀(o o':J8g),(o'=o\/o'=o.freeze\/o'= .dead)->o'.live=true->o.live=true:=by
  rintro o o' (rfl|rfl|rfl) hd;·exact hd
  ·cases o<;>simp_all [J8g.freeze,J8g.live]
  cases hd
 have own:∀b,Jge G h' b->Jge G h b:=(by rintro b ⟨l,o',g,h1,h2,h3,h4⟩;obtain⟨o,ho,hc⟩:=back l o' h1;exact⟨l,o,g,ho,h2,lv o o' hc h3,h4⟩);have k:J9c w w (okB c G h w) (okB c G h' w):=⟨λb hb=>⟨hb.1,hb.2.1,λho=>hb.2.2 (own b ho)⟩,λ_ _ _ _ h=>h⟩;refine⟨?_,k⟩
 refine { EA:=hh.EA,len:=by rw[hlen];exact hh.len,inj:= ?_,inE:= ?_,inL:=λb hb=>hh.inL b (own b hb),frame:=hh.frame,big:=hh.big,
          os:=hh.os,tape:=hh.tape,output:=hh.output,objs:= ?_}
 ·intro l1 l2 g1 g2 o1 o2 b' hg1 hg2 ho1 ho2 hd1 hd2 hb1 hb2;obtain⟨x1,hx1,hc1⟩:=back l1 o1 ho1;obtain⟨x2,hx2,hc2⟩:=back l2 o2 ho2;exact hh.inj l1 l2 g1 g2 x1 x2 b' hg1 hg2 hx1 hx2 (nd _ _ hc1 hd1) (nd _ _ hc2 hd2) hb1 hb2
 ·intro l1 o1 g1 b' ho1 hg1 hd1 hb1;obtain⟨x1,hx1,hc1⟩:=back l1 o1 ho1;exact hh.inE l1 x1 g1 b' hx1 hg1 (nd _ _ hc1 hd1) hb1
 intro l1 o1 g1 ho1 hg1;obtain⟨x1,hx1,hc1⟩:=back l1 o1 ho1;have h1:=Jet.mono (Ext.refl G) k (λ_ _=>rfl) x1 (hh.objs l1 x1 g1 hx1 hg1);rcases hc1 with rfl|rfl|rfl;·exact h1
 ·exact Jet.freeze _ h1
 trivial
theorem HRG.same(hh:HRG c G h w)(he:w'.heap=w.heap)(h1:w'.os=w.os)(h2:w'.tape=w.tape)(h3:w'.output=w.output):HRG c G h w'/\okB c G h w'=okB c G h w/\J9c w w' (okB c G h w) (okB c G h w):=by
 have hok:okB c G h w'=okB c G h w:=(by funext b;simp only[okB,he]);have k:J9c w w' (okB c G h w) (okB c G h w):=⟨λ_ h=>h,λb o v _ hv=>by rw[cell?_of_heap (w:=w) (w':=w') (by rw[he])];exact hv⟩;refine⟨?_,hok,k⟩
 refine { EA:=hh.EA,len:=hh.len,inj:=hh.inj,inE:=λl o g b a1 a2 a3 a4=>by rw[he];exact hh.inE l o g b a1 a2 a3 a4,inL:=hh.inL,
          frame:=λb x y=>by rw[he];exact hh.frame b x y,big:=by rw[he];exact hh.big,os:=h1.trans hh.os,tape:=h2.trans hh.tape,
          output:=h3.trans hh.output,objs:=λl o g a1 a2=> ?_}
 rw[hok];exact Jet.mono (Ext.refl G) k (λ_ _=>by rw[he]) o (hh.objs l o g a1 a2)
theorem HRG.grow0(hh:HRG c G h w)(oldblk:∀b,b<w.heap.size->w'.heap[b]? =w.heap[b]?)(hsz:w.heap.size<=w'.heap.size)(h1:w'.os=w.os)(h2:w'.tape=w.tape)(h3:w'.output=w.output)(hn1:w.heap.size<=n)(hn2:n<w'.heap.size)(hb:g.blk=some n)(hr:∀ok':Nat->Prop,J9c w w' (okB c G h w) ok'->Jet (G++[g]) w' ok' g o):HRG c (G++[g]) (h++[o]) w'/\J9c w w' (okB c G h w) (okB c (G++[g]) (h++[o]) w'):=by
 have hlen:=hh.len;have gl:∀(l:Nat) (o':J8g) (g':GE),(h++[o])[l]? =some o'->(G++[g])[l]? =some g'->(h[l]? =some o'/\G[l]? =some g')\/(l=h.length/\o'=o/\g'=g):=(by grind);have k:J9c w w' (okB c G h w) (okB c (G++[g]) (h++[o]) w'):=by
  refine⟨λb hb'=>⟨by have:=hb'.1;omega,hb'.2.1, ?_⟩,λb o' v hb' hv=>by rw[cell?_of_heap (oldblk b hb'.1)];exact hv⟩;rintro⟨l,o',g',h1,h2,h3,h4⟩;rcases gl l o' g' h1 h2 with⟨h1,h2⟩|⟨rfl,rfl,rfl⟩;·exact hb'.2.2 ⟨l,o',g',h1,h2,h3,h4⟩
  rw[hb]at h4;injection h4 with h4;have:=hb'.1;omega
 refine⟨?_,k⟩
 refine { EA:=hh.EA,len:=by simp[hlen],inj:= ?_,inE:= ?_,inL:= ?_,frame:= ?_,big:=Nat.le_trans hh.big hsz,
          os:=h1.trans hh.os,tape:=h2.trans hh.tape,output:=h3.trans hh.output,objs:= ?_}
 ·intro l1 l2 g1 g2 o1 o2 b' hg1 hg2 ho1 ho2 hd1 hd2 hb1 hb2;rcases gl l1 o1 g1 ho1 hg1 with⟨p1,q1⟩|⟨rfl,rfl,rfl⟩<;>rcases gl l2 o2 g2 ho2 hg2 with⟨p2,q2⟩|⟨rfl,rfl,rfl⟩
  ·exact hh.inj l1 l2 g1 g2 o1 o2 b' q1 q2 p1 p2 hd1 hd2 hb1 hb2
  ·have:=(hh.inE l1 o1 g1 b' p1 q1 hd1 hb1).1;grind
  ·have:=(hh.inE l2 o2 g2 b' p2 q2 hd2 hb2).1;grind
  rfl
 ·intro l1 o1 g1 b' ho1 hg1 hd1 hb1;rcases gl l1 o1 g1 ho1 hg1 with⟨ho1,hg1⟩|⟨rfl,rfl,rfl⟩;·obtain⟨x,y⟩:=hh.inE l1 o1 g1 b' ho1 hg1 hd1 hb1;exact⟨by omega,y⟩
  rw[hb]at hb1;injection hb1 with hb1;subst hb1;exact⟨hn2,.inr (Nat.le_trans hh.big hn1)⟩
 ·rintro b' ⟨l,o',g',h1,h2,h3,h4⟩;rcases gl l o' g' h1 h2 with⟨h1,h2⟩|⟨rfl,rfl,rfl⟩;·exact hh.inL b' ⟨l,o',g',h1,h2,h3,h4⟩
  rw[hb]at h4;injection h4 with h4;subst h4;exact .inr (Nat.le_trans hh.big hn1)
 ·intro b' hb' hL;rw[oldblk b' (Nat.lt_of_lt_of_le hb' hh.big)];exact hh.frame b' hb' hL
 intro l1 o1 g1 ho1 hg1;rcases gl l1 o1 g1 ho1 hg1 with⟨ho1,hg1⟩|⟨rfl,rfl,rfl⟩
 ·cases hd1:o1.isDead with
  |true=>cases o1<;>simp[J8g.isDead]at hd1;trivial
  |false=>refine Jet.mono (Ext.snoc G g) k (λb' hb'=> ?_) o1 (hh.objs l1 o1 g1 ho1 hg1);exact oldblk b' (hh.inE l1 o1 g1 b' ho1 hg1 hd1 hb').1
 exact hr _ k
theorem HRG.alloc0(hh:HRG c G h w)(hb:g.blk=some w.heap.size)(hr:∀ok':Nat->Prop,J9c w (w.alloc x) (okB c G h w) ok'->Jet (G++[g]) (w.alloc x) ok' g o):HRG c (G++[g]) (h++[o]) (w.alloc x)/\ J9c w (w.alloc x) (okB c G h w) (okB c (G++[g]) (h++[o]) (w.alloc x)):=hh.grow0 (λb hb=>RowKit.Below.heap_alloc _ _ _ hb) (by simp) rfl rfl rfl (Nat.le_refl _) (by simp) hb hr
theorem HRG.alloc(hh:HRG c G h w)(hb:g.blk=some w.heap.size)(hr:∀ok':Nat->Prop,J9c w (w.alloc (.cells cs U)) (okB c G h w) ok'->Jet (G++[g]) (w.alloc (.cells cs U)) ok' g o):HRG c (G++[g]) (h++[o]) (w.alloc (.cells cs U))/\ J9c w (w.alloc (.cells cs U)) (okB c G h w) (okB c (G++[g]) (h++[o]) (w.alloc (.cells cs U))):=hh.alloc0 hb hr
theorem HRG.fresh(hh:HRG c G h w)(hb:g.blk=none)(hr:∀ok':Nat->Prop,Jet (G++[g]) w ok' g o):HRG c (G++[g]) (h++[o]) w/\J9c w w (okB c G h w) (okB c (G++[g]) (h++[o]) w):=by
 have hlen:=hh.len;have gl:∀(l:Nat) (o':J8g) (g':GE),(h++[o])[l]? =some o'->(G++[g])[l]? =some g'->(h[l]? =some o'/\G[l]? =some g')\/(l=h.length/\o'=o/\g'=g):=(by grind);have own:∀b,Jge (G++[g]) (h++[o]) b->Jge G h b:=by
  rintro b ⟨l,o',g',h1,h2,h3,h4⟩;rcases gl l o' g' h1 h2 with⟨h1,h2⟩|⟨rfl,rfl,rfl⟩;·exact⟨l,o',g',h1,h2,h3,h4⟩
  rw[hb]at h4;cases h4
 have k:J9c w w (okB c G h w) (okB c (G++[g]) (h++[o]) w):=⟨λb hb=>⟨hb.1,hb.2.1,λho=>hb.2.2 (own b ho)⟩,λ_ _ _ _ h=>h⟩;refine⟨?_,k⟩
 refine { EA:=hh.EA,len:=by simp[hlen],inj:= ?_,inE:= ?_,inL:=λb hb=>hh.inL b (own b hb),frame:=hh.frame,big:=hh.big,
          os:=hh.os,tape:=hh.tape,output:=hh.output,objs:= ?_}
 ·intro l1 l2 g1 g2 o1 o2 b' hg1 hg2 ho1 ho2 hd1 hd2 hb1 hb2;rcases gl l1 o1 g1 ho1 hg1 with⟨p1,q1⟩|⟨rfl,rfl,rfl⟩<;>rcases gl l2 o2 g2 ho2 hg2 with⟨p2,q2⟩|⟨rfl,rfl,rfl⟩
  ·exact hh.inj l1 l2 g1 g2 o1 o2 b' q1 q2 p1 p2 hd1 hd2 hb1 hb2
  ·rw[hb]at hb2;cases hb2
  ·rw[hb]at hb1;cases hb1
  rfl
 ·intro l1 o1 g1 b' ho1 hg1 hd1 hb1;rcases gl l1 o1 g1 ho1 hg1 with⟨ho1,hg1⟩|⟨rfl,rfl,rfl⟩;·exact hh.inE l1 o1 g1 b' ho1 hg1 hd1 hb1
  rw[hb]at hb1;cases hb1
 intro l1 o1 g1 ho1 hg1;rcases gl l1 o1 g1 ho1 hg1 with⟨ho1,hg1⟩|⟨rfl,rfl,rfl⟩;·exact Jet.mono (Ext.snoc G g) k (λ_ _=>rfl) o1 (hh.objs l1 o1 g1 ho1 hg1)
 exact hr _
theorem HRG.heir(hh:HRG c G h w)(hl:h[l]? =some o)(hg:G[l]? =some g)(hlive:o.live=true)(hb:g.blk=some b)(hb':g'.blk=some b)(hw:Wrote w w' b cs U)(hr:∀ok':Nat->Prop,J9c w w' (okB c G h w) ok'->Jet (G++[g']) w' ok' g' o')(e':o'.live=true):HRG c (G++[g']) (h.set l .dead++[o']) w'/\J9c w w' (okB c G h w) (okB c (G++[g']) (h.set l .dead++[o']) w'):=by
 have hlen:=hh.len;have hown:Jge G h b:=⟨l,o,g,hl,hg,hlive,hb⟩;have hdead:o.isDead=false:=(by cases o<;>simp_all [J8g.live,J8g.isDead]);have gl:∀(l1:Nat) (o1:J8g) (g1:GE),(h.set l .dead++[o'])[l1]? =some o1->(G++[g'])[l1]? =some g1-> (l1≠l/\h[l1]? =some o1/\G[l1]? =some g1)\/(l1=h.length/\o1=o'/\g1=g')\/(o1= .dead):=(by grind);have own:∀b,Jge (G++[g']) (h.set l .dead++[o']) b->Jge G h b:=by
  rintro b1 ⟨l1,o1,g1,h1,h2,h3,h4⟩;rcases gl l1 o1 g1 h1 h2 with⟨_,h1,h2⟩|⟨rfl,rfl,rfl⟩|rfl;·exact⟨l1,o1,g1,h1,h2,h3,h4⟩
  ·grind
  cases h3
 have k:J9c w w' (okB c G h w) (okB c (G++[g']) (h.set l .dead++[o']) w'):=(by refine⟨λb1 hb1=>⟨by rw[hw.size];exact hb1.1,hb1.2.1,λho=>hb1.2.2 (own b1 ho)⟩,λb1 o1 v hb1 hv=> ?_⟩;have hne:b1≠b:=λe=>hb1.2.2 (e▸hown);rw[cell?_of_heap (hw.other b1 hne)];exact hv);refine⟨?_,k⟩
 refine { EA:=hh.EA,len:=by simp[hlen],inj:= ?_,inE:= ?_,inL:=λb hb=>hh.inL b (own b hb),frame:= ?_,big:=by rw[hw.size];exact hh.big,
          os:=hw.os.trans hh.os,tape:=hw.tape.trans hh.tape,output:=hw.output.trans hh.output,objs:= ?_}
 ·intro l1 l2 g1 g2 o1 o2 b' hg1 hg2 ho1 ho2 hd1 hd2 hb1 hb2;rcases gl l1 o1 g1 ho1 hg1 with⟨n1,p1,q1⟩|⟨rfl,rfl,rfl⟩|rfl
  ·rcases gl l2 o2 g2 ho2 hg2 with⟨n2,p2,q2⟩|⟨rfl,rfl,rfl⟩|rfl;·exact hh.inj l1 l2 g1 g2 o1 o2 b' q1 q2 p1 p2 hd1 hd2 hb1 hb2
   ·rw[hb']at hb2;injection hb2 with hb2;subst hb2;exact absurd (hh.inj l1 l g1 g o1 o _ q1 hg p1 hl hd1 hdead hb1 hb) n1
   cases hd2
  ·rcases gl l2 o2 g2 ho2 hg2 with⟨n2,p2,q2⟩|⟨rfl,rfl,rfl⟩|rfl;·rw[hb']at hb1;injection hb1 with hb1;subst hb1;exact absurd (hh.inj l2 l g2 g o2 o _ q2 hg p2 hl hd2 hdead hb2 hb) n2
   ·rfl
   cases hd2
  cases hd1
 ·intro l1 o1 g1 b1 ho1 hg1 hd1 hb1;rw[hw.size];rcases gl l1 o1 g1 ho1 hg1 with⟨n1,ho1,hg1⟩|⟨rfl,rfl,rfl⟩|rfl;·exact hh.inE l1 o1 g1 b1 ho1 hg1 hd1 hb1
  ·rw[hb']at hb1;injection hb1 with hb1;subst hb1;exact hh.inE l o g b hl hg hdead hb
  cases hd1
 ·intro b1 hb1 hL;have hne:b1≠b:=by
   rintro rfl;rcases hh.inL _ hown with h1|h1;·exact hL h1
   omega
  rw[hw.other _ hne];exact hh.frame _ hb1 hL
 intro l1 o1 g1 ho1 hg1;rcases gl l1 o1 g1 ho1 hg1 with⟨n1,ho1,hg1⟩|⟨rfl,rfl,rfl⟩|rfl
 ·cases hd1:o1.isDead with
  |true=>cases o1<;>simp[J8g.isDead]at hd1;trivial
  |false=>refine Jet.mono (Ext.snoc G g') k (λb1 hb1=>hw.other b1 ?_) o1 (hh.objs l1 o1 g1 ho1 hg1);rintro rfl;exact n1 (hh.inj l1 l g1 g o1 o _ hg1 hg ho1 hl hd1 hdead hb1 hb)
 ·exact hr _ k
 trivial
end Go.Ax

namespace Go.Ax
variable {P : Program} {T : Tab}
def Jeq:List Nat->Nat->Option Nat
 |[],_=>none
 |b::r,l=>bif Nat.beq b l then some 0 else match Jeq r l with|some k=>some (k+1)|none=>none
theorem Jjv:∀{back:List Nat} {l k:Nat},Jeq back l=some k->back[k]? =some l
 |[],_,_,h=>by cases h
 |b::r,l,k,h=>by
  unfold Jeq at h;by_cases e:b=l;·subst e;simp at h;subst h;rfl
  have:Nat.beq b l=false:=(by rw[<-Bool.not_eq_true,Nat.beq_eq];exact e);rw[this]at h;cases hr:Jeq r l with
  |none=>rw[hr]at h;cases h
  |some j=>rw[hr]at h;injection h with h;subst h;simpa using Jjv hr
def J9j(back:List Nat)(l:Nat):Nat:=match Jeq back l with|some k=>k|none=>0
def J9y(back:List Nat)(l:Nat):Bool:=match Jeq back l with|some _=>true|none=>false
theorem Jgx(h:J9y back l=true):back[J9j back l]? =some l/\Jeq back l=some (J9j back l):=by
 unfold J9y at h;unfold J9j;cases hp:Jeq back l with
 |none=>rw[hp]at h;cases h
 |some k=>exact⟨Jjv hp,rfl⟩
def Juu:List Nat->Bool
 |[]=>true
 |b::r=> !J9y r b&&Juu r
theorem Jah:∀{back:List Nat} {l k:Nat},Juu back=true->back[k]? =some l->Jeq back l=some k
 |[],_,_,_,h=>by simp at h
 |b::r,l,k,ho,h=>by simp only[Juu,Bool.and_eq_true]at ho;unfold Jeq;cases k with|zero=>simp at h;subst h;simp|succ k=>have h':r[k]? =some l:=(by simpa using h);have hr:=Jah ho.2 h';have e:b≠l:=(by rintro rfl;have:J9y r b=true:=(by unfold J9y;rw[hr]);rw[this]at ho;cases ho.1);have:Nat.beq b l=false:=(by rw[<-Bool.not_eq_true,Nat.beq_eq];exact e);rw[this,cond_false,hr]
def J8m(h:List J8g)(l:Nat):J8g:=h.getD l .dead
def Jcu(h:List J8g)(back:List Nat):List J8g:=back.map λl=>(J8m h l).ren (J9j back)
def Jbg(h:List J8g)(back:List Nat):Bool:=Juu back&&back.all λl=>Nat.blt l h.length&&(J8m h l).ids.all (J9y back)
def unl(n:Nat)(back:List Nat)(k:Nat):Nat:=match back[k]? with|some l=>l|none=>n+(k - back.length)
def Jyl(n:Nat)(back snap:List Nat)(fl:Bool)(objs':List J8g)(l:Nat)(o:J8g):J8g:=
 match Jeq back l with
 |some k=>(J8m objs' k).ren (unl n back)
 |none=>bif !fl&&J9y snap l then o.freeze else o
def Jfj(n:Nat)(back snap:List Nat)(fl:Bool)(objs':List J8g):List J8g->Nat->List J8g
 |[],_=>[]
 |o::r,l=>Jyl n back snap fl objs' l o::Jfj n back snap fl objs' r (l+1)
def J9r(h:List J8g)(back snap:List Nat)(fl:Bool)(objs':List J8g):List J8g:=Jfj h.length back snap fl objs' h 0++(objs'.drop back.length).map (J8g.ren (unl h.length back))
theorem Jbx(n:Nat) back snap fl objs':∀(h:List J8g) (l:Nat),(Jfj n back snap fl objs' h l).length=h.length
 |[],_=>rfl
 |_::r,l=>by simp[Jfj,Jbx n back snap fl objs' r (l+1)]
theorem Jgn(n:Nat) back snap fl objs':∀(h:List J8g) (l i:Nat),
  (Jfj n back snap fl objs' h l)[i]? =(h[i]?).map (Jyl n back snap fl objs' (l+i))
 |[],_,_=>rfl
 |o::r,l,0=>rfl
 |o::r,l,i+1=>by simp only[Jfj,List.getElem?_cons_succ];rw[Jgn n back snap fl objs' r (l+1) i,show l+1+i=l+(i+1)by omega]
def Jan(c:Ctx)(G:List GE)(h:List J8g)(w:World)(back snap:List Nat):Ctx where
 A b:=okB c G h w b\/∃(l:Nat) (o:J8g) (g:GE),(l∈back\/l∈snap)/\h[l]? =some o/\G[l]? =some g/\o.isDead=false/\g.blk=some b
 E b:=∃(l:Nat) (o:J8g) (g:GE),l∈back/\h[l]? =some o/\G[l]? =some g/\o.isDead=false/\g.blk=some b
 L b:=∃(l:Nat) (o:J8g) (g:GE),l∈back/\h[l]? =some o/\G[l]? =some g/\o.live=true/\g.blk=some b
 w0:=w
 G0:=back.map λl=>G.getD l default
theorem Jfu{o:J8g}(h:o.live=true):o.isDead=false:=by cases o<;>simp_all [J8g.live,J8g.isDead]
section
variable {c : Ctx} {G : List GE} {h : List J8g} {w : World} {back snap : List Nat}
theorem Jbo(hb:Jbg h back=true){k:Nat}{o':J8g}{g:GE}(ho:(Jcu h back)[k]? =some o')(hlen:G.length=h.length)(hg:(back.map λl=>G.getD l default)[k]? =some g):∃l o,back[k]? =some l/\h[l]? =some o/\G[l]? =some g/\o'=o.ren (J9j back)/\∀i∈o.ids,J9y back i=true:=by
 simp only[Jbg,Bool.and_eq_true,List.all_eq_true,Nat.blt_eq]at hb;rw[Jcu,List.getElem?_map]at ho;rw[List.getElem?_map]at hg;cases hk:back[k]? with
 |none=>rw[hk]at ho;cases ho
 |some l=>obtain⟨hl,hids⟩:=hb.2 l (List.mem_of_getElem? hk);have e1:h[l]? =some (J8m h l):=(by simp[J8m,List.getElem?_eq_getElem hl]);grind
theorem Jhw(hb:Juu back=true)(hlen:G.length=h.length)(hi:∀i∈ids,J9y back i=true):Jgg G (back.map λl=>G.getD l default) (J9j back) ids:=by intro l hl g hg;have:=(Jgx (hi l hl)).1;grind
theorem Jf3(hh:HRG c G h w)(hb:Jbg h back=true):J9c w w (okB c G h w) (okB (Jan c G h w back snap) (back.map λl=>G.getD l default) (Jcu h back) w):=by refine⟨λb hok=>⟨hok.1,λ_=>.inl hok, ?_⟩,λ_ _ _ _ h=>h⟩;rintro⟨k,o',g,h1,h2,h3,h4⟩;obtain⟨l,o,e1,e2,e3,rfl,_⟩:=Jbo hb h1 hh.len h2;rw[J8g.live_ren]at h3;exact hok.2.2 ⟨l,o,g,e2,e3,h3,h4⟩
theorem Jjk(hh:HRG c G h w)(hb:Jbg h back=true):HRG (Jan c G h w back snap) (back.map λl=>G.getD l default) (Jcu h back) w:=by
 have hb':=hb;simp only[Jbg,Bool.and_eq_true]at hb';refine {EA:= ?_,len:=by simp[Jcu],inj:= ?_,inE:= ?_,inL:= ?_,frame:=λ_ _ _=>rfl,big:=Nat.le_refl _,os:=rfl,tape:=rfl,output:=rfl,objs:= ?_};·rintro b ⟨l,o,g,h1,h2⟩;exact .inr ⟨l,o,g,.inl h1,h2⟩
 ·intro k1 k2 g1 g2 o1 o2 b hg1 hg2 ho1 ho2 hd1 hd2 hb1 hb2;obtain⟨l1,x1,e1,e2,e3,rfl,_⟩:=Jbo hb ho1 hh.len hg1;obtain⟨l2,x2,f1,f2,f3,rfl,_⟩:=Jbo hb ho2 hh.len hg2;rw[J8g.isDead_ren]at hd1 hd2;have:=hh.inj l1 l2 g1 g2 x1 x2 b e3 f3 e2 f2 hd1 hd2 hb1 hb2;subst this;have h1:=Jah hb'.1 e1;have h2:=Jah hb'.1 f1;rw[h1]at h2;injection h2
 ·intro k o' g b ho hg hd hbk;obtain⟨l,o,e1,e2,e3,rfl,_⟩:=Jbo hb ho hh.len hg;rw[J8g.isDead_ren]at hd;exact⟨(hh.inE l o g b e2 e3 hd hbk).1,.inl ⟨l,o,g,List.mem_of_getElem? e1,e2,e3,hd,hbk⟩⟩
 ·rintro b ⟨k,o',g,h1,h2,h3,h4⟩;obtain⟨l,o,e1,e2,e3,rfl,_⟩:=Jbo hb h1 hh.len h2;rw[J8g.live_ren]at h3;exact .inl ⟨l,o,g,List.mem_of_getElem? e1,e2,e3,h3,h4⟩
 intro k o' g ho hg;obtain⟨l,o,e1,e2,e3,rfl,hids⟩:=Jbo hb ho hh.len hg;refine Jet.ren o (Jhw hb'.1 hh.len hids) ?_;have:=hh.objs l o g e2 e3;cases o with
 |row e xs lv=>
  obtain⟨a1,a2,a3,a4,a5⟩:=this;refine⟨a1,a2,a3,a4, ?_⟩;rcases a5 with a5|⟨b,cs,U,a5,a6,a7,a8⟩;·exact .inl a5
  exact .inr ⟨b,cs,U,a5,a6,a7,J92.mono (Jf3 hh hb) _ a8⟩
 |box t s lv=>obtain⟨a1,a2,b,cs,U,a3,a4,a5⟩:=this;exact⟨a1,a2,b,cs,U,a3,a4,J90.mono (Ext.refl G) (Jf3 hh hb) s a5⟩
 |map k v es lv=>obtain⟨a1,b,es',q,a2,a3,a4⟩:=this;exact⟨a1,b,es',q,a2,a3,MapB.mono (Jf3 hh hb) a4⟩
 |dead=>trivial
theorem K7g(hk:back[k]? =some l):unl n back k=l:=by unfold unl;rw[hk]
theorem K7f(hk:back.length<=k):unl n back k=n+(k - back.length):=by unfold unl;rw[List.getElem?_eq_none hk]
variable {G2 : List GE} {objs' : List J8g} {w' : World} {fl : Bool}
theorem K88(hh:HRG c G h w)(hb:Jbg h back=true)(hl2:G2.length=objs'.length)(hx:Ext (back.map λl=>G.getD l default) G2)(hle:back.length<=objs'.length)(ho:(J9r h back snap fl objs')[l]? =some o)(hg:(G++G2.drop back.length)[l]? =some g):(l∉back/\G[l]? =some g/\∃o0,h[l]? =some o0/\((o=o0/\(fl=false->J9y snap l=false))\/o=o0.freeze))\/ (∃k o',unl h.length back k=l/\objs'[k]? =some o'/\G2[k]? =some g/\o=o'.ren (unl h.length back)):=by
 have hb':=hb;simp only[Jbg,Bool.and_eq_true,List.all_eq_true,Nat.blt_eq]at hb';rcases Nat.lt_or_ge l h.length with hl|hl
 ·rw[J9r,List.getElem?_append_left (by rw[Jbx];exact hl),Jgn,Nat.zero_add,List.getElem?_eq_getElem hl]at ho;rw[List.getElem?_append_left (by rw[hh.len];exact hl)]at hg;simp at ho;unfold Jyl at ho;cases hp:Jeq back l with
  |some k=>rw[hp]at ho;have hk:=Jjv hp;have hkl:k<back.length:=(by grind);right;refine⟨k,J8m objs' k,K7g hk,by simp[J8m,List.getElem?_eq_getElem (show k<objs'.length by omega)], ?_,ho.symm⟩;refine hx k g ?_;grind
  |none=>
   rw[hp]at ho;left;refine⟨?_,hg,_,List.getElem?_eq_getElem hl, ?_⟩;·intro hm;obtain⟨k,hk⟩:=List.getElem?_of_mem hm;rw[Jah hb'.1 hk]at hp;cases hp
   grind
 right;rw[J9r,List.getElem?_append_right (by rw[Jbx];exact hl),Jbx,List.getElem?_map,List.getElem?_drop]at ho;rw[List.getElem?_append_right (by rw[hh.len];exact hl),hh.len,List.getElem?_drop]at hg;cases hk:objs'[back.length+(l - h.length)]? with
 |none=>rw[hk]at ho;cases ho
 |some o'=>rw[hk]at ho;simp at ho;exact⟨_,o',by rw[K7f (by omega)];omega,hk,hg,ho.symm⟩
theorem Jvr(hh:HRG c G h w)(hb:Jbg h back=true)(hx:Ext (back.map λl=>G.getD l default) G2) ids:Jgg G2 (G++G2.drop back.length) (unl h.length back) ids:=by have hb':=hb;simp only[Jbg,Bool.and_eq_true,List.all_eq_true,Nat.blt_eq]at hb';intro k _ g hg;cases hk:back[k]? with|some l=>rw[K7g hk];have hl:=(hb'.2 l (List.mem_of_getElem? hk)).1;have hlG:l<G.length:=(by rw[hh.len];exact hl);have:=hx k (G.getD l default) (by rw[List.getElem?_map,hk];rfl);grind|none=>have hge:back.length<=k:=(by grind);rw[K7f hge,List.getElem?_append_right (by rw[hh.len];omega),hh.len];grind
theorem Jgp(hh:HRG c G h w)(hb:Jbg h back=true)(hdis:∀l∈snap,J9y back l=false)(hle:back.length<=objs'.length)(hfl:fl=true->∀o∈objs',o.flat=true)(h2:HRG (Jan c G h w back snap) G2 objs' w')(hx:Ext (back.map λl=>G.getD l default) G2):HRG c (G++G2.drop back.length) (J9r h back snap fl objs') w'/\Ext G (G++G2.drop back.length)/\ J9c w w' (okB c G h w) (okB c (G++G2.drop back.length) (J9r h back snap fl objs') w')/\ ∀(s:J8e) (v:Value),(fl=true->s.flat=true)->J9e G2 w' (okB (Jan c G h w back snap) G2 objs' w') s v-> J9e (G++G2.drop back.length) w' (okB c (G++G2.drop back.length) (J9r h back snap fl objs') w') (s.ren (unl h.length back)) v:=by
 have hb':=hb;simp only[Jbg,Bool.and_eq_true,List.all_eq_true,Nat.blt_eq]at hb';have hl2:=h2.len
 have bg:∀{l:Nat} {o:J8g} {g:GE},(J9r h back snap fl objs')[l]? =some o->(G++G2.drop back.length)[l]? =some g->_:=
   λho hg=>K88 (snap:=snap) (fl:=fl) hh hb hl2 hx hle ho hg
 have hbig:w.heap.size<=w'.heap.size:=h2.big;have eld:∀{l:Nat} {o o0:J8g} {g:GE} {b:Nat},l∉back->G[l]? =some g->h[l]? =some o0->(o=o0\/o=o0.freeze)->o.isDead=false->g.blk=some b-> o0.isDead=false/\b<w.heap.size/\¬(Jan c G h w back snap).E b:=by
  intro l o o0 g b hnb hg ho0 hoo hd hbk;have hd0:o0.isDead=false:=by
   rcases hoo with rfl|rfl;·exact hd
   rwa[J8g.isDead_freeze]at hd
  refine⟨hd0,(hh.inE l o0 g b ho0 hg hd0 hbk).1, ?_⟩;rintro⟨l',o',g',h1,h3,h4,h5,h6⟩;exact hnb (hh.inj l l' g g' o0 o' b hg h4 ho0 h3 hd0 h5 hbk h6▸h1)
 have LE:∀b,(Jan c G h w back snap).L b->(Jan c G h w back snap).E b:=(by rintro b ⟨l,o,g,h1,h3,h4,h5,h6⟩;exact⟨l,o,g,h1,h3,h4,Jfu h5,h6⟩);have LO:∀b,(Jan c G h w back snap).L b->Jge G h b:=(by rintro b ⟨l,o,g,h1,h3,h4,h5,h6⟩;exact⟨l,o,g,h3,h4,h5,h6⟩);have fr:∀b,b<w.heap.size->¬(Jan c G h w back snap).L b->w'.heap[b]? =w.heap[b]?:=λb h1 h3=>h2.frame b h1 h3;have k:J9c w w' (okB c G h w) (okB c (G++G2.drop back.length) (J9r h back snap fl objs') w'):=by
  refine⟨λb hok=>⟨by have:=hok.1;omega,hok.2.1, ?_⟩,λb o v hok hv=> ?_⟩
  ·rintro⟨l,o,g,h1,h3,h4,h5⟩;rcases bg h1 h3 with⟨hnb,hg,o0,ho0,hoo⟩|⟨k,o',hk,ho',hg,rfl⟩
   ·rcases hoo with⟨rfl,_⟩|rfl;·exact hok.2.2 ⟨l,o,g,ho0,hg,h4,h5⟩
    rw[J8g.live_freeze]at h4;cases h4
   rw[J8g.live_ren]at h4;rcases h2.inL b ⟨k,o',g,ho',hg,h4,h5⟩with h6|h6;·exact hok.2.2 (LO b h6)
   have h7:=hok.1;have h8:w.heap.size<=b:=h6;omega
  rw[cell?_of_heap (fr b hok.1 λh6=>hok.2.2 (LO b h6))];exact hv
 have sub2:fl=false->J9c w' w' (okB (Jan c G h w back snap) G2 objs' w') (okB c (G++G2.drop back.length) (J9r h back snap fl objs') w'):=by
  intro hf;refine⟨λb hok=>⟨hok.1, ?_, ?_⟩,λ_ _ _ _ h=>h⟩
  ·intro hb0;have hlt:b<w.heap.size:=Nat.lt_of_lt_of_le hb0 hh.big;rcases hok.2.1 hlt with h1|⟨l,o,g,_,h3,h4,h5,h6⟩;·exact h1.2.1 hb0
   rcases(hh.inE l o g b h3 h4 h5 h6).2 with h7|h7;·exact hh.EA b h7
   omega
  rintro⟨l,o,g,h1,h3,h4,h5⟩;rcases bg h1 h3 with⟨hnb,hg,o0,ho0,hoo⟩|⟨k,o',hk,ho',hg,rfl⟩
  ·rcases hoo with⟨rfl,hs⟩|rfl
   ·have hlt:=(hh.inE l o g b ho0 hg (Jfu h4) h5).1;rcases hok.2.1 hlt with h6|⟨l',o',g',h6,h7,h8,h9,h10⟩;·exact h6.2.2 ⟨l,o,g,ho0,hg,h4,h5⟩
    have:=hh.inj l l' g g' o o' b hg h8 ho0 h7 (Jfu h4) h9 h5 h10;subst this;rcases h6 with h6|h6;·exact hnb h6
    have:=hs hf;obtain⟨j,hj⟩:=List.getElem?_of_mem h6;unfold J9y at this;cases hp:Jeq snap l with
    | none=>
     have hin:∀(s:List Nat),l∈s->Jeq s l≠none:=by
      intro s;induction s with
      |nil=>intro h;cases h
      |cons x r ih=>
       intro hm;unfold Jeq;by_cases e:x=l;·subst e;simp
       grind
     exact hin snap h6 hp
    |some z=>rw[hp]at this;cases this
   rw[J8g.live_freeze]at h4;cases h4
  rw[J8g.live_ren]at h4;exact hok.2.2 ⟨k,o',g,ho',hg,h4,h5⟩
 have ab:∀{l:Nat} {o o0:J8g} {g g':GE} {b k:Nat} {o':J8g},l∉back->G[l]? =some g->h[l]? =some o0->(o=o0\/o=o0.freeze)->o.isDead=false->g.blk=some b-> objs'[k]? =some o'->G2[k]? =some g'->o'.isDead=false->g'.blk=some b->False:=by
  intro l o o0 g g' b k o' hnb hg ho0 hoo hd hbk ho' hg' hd' hbk';obtain⟨_,hlt,hnE⟩:=eld hnb hg ho0 hoo hd hbk;rcases(h2.inE k o' g' b ho' hg' hd' hbk').2 with h6|h6;·exact hnE h6
  have h8:w.heap.size<=b:=h6;omega
 have weak:∀{o o0:J8g} {l:Nat},((o=o0/\(fl=false->J9y snap l=false))\/o=o0.freeze)->(o=o0\/o=o0.freeze):=by
  intro o o0 l hoo;rcases hoo with⟨e,_⟩|e;·exact .inl e
  exact .inr e
 have rel2:∀(s:J8e) (v:Value),(fl=true->s.flat=true)->J9e G2 w' (okB (Jan c G h w back snap) G2 objs' w') s v-> J9e (G++G2.drop back.length) w' (okB c (G++G2.drop back.length) (J9r h back snap fl objs') w') (s.ren (unl h.length back)) v:=(by intro s v hf hv;refine J9e.ren s (Jvr hh hb hx _) ?_;cases hfl':fl with|true=>exact J9e.flat s (hf hfl') hv|false=>have:=J9e.mono (Ext.refl G2) (sub2 hfl') s hv;rwa[hfl']at this);refine⟨?_, ?_,k,rel2⟩
 ·refine {EA:=hh.EA,len:= ?_,inj:= ?_,inE:= ?_,inL:= ?_,frame:= ?_,big:=Nat.le_trans hh.big hbig,os:=h2.os.trans hh.os,tape:=h2.tape.trans hh.tape,output:=h2.output.trans hh.output,objs:= ?_};·simp[J9r,Jbx,hh.len,hl2]
  ·intro l1 l2 g1 g2 o1 o2 b hg1 hg2 ho1 ho2 hd1 hd2 hb1 hb2;rcases bg ho1 hg1 with⟨n1,q1,x1,p1,r1⟩|⟨k1,x1,u1,p1,q1,rfl⟩
   ·rcases bg ho2 hg2 with⟨n2,q2,x2,p2,r2⟩|⟨k2,x2,u2,p2,q2,rfl⟩;·exact hh.inj l1 l2 g1 g2 x1 x2 b q1 q2 p1 p2 (eld n1 q1 p1 (weak r1) hd1 hb1).1 (eld n2 q2 p2 (weak r2) hd2 hb2).1 hb1 hb2
    rw[J8g.isDead_ren]at hd2;exact(ab n1 q1 p1 (weak r1) hd1 hb1 p2 q2 hd2 hb2).elim
   rw[J8g.isDead_ren]at hd1;rcases bg ho2 hg2 with⟨n2,q2,x2,p2,r2⟩|⟨k2,x2,u2,p2,q2,rfl⟩;·exact(ab n2 q2 p2 (weak r2) hd2 hb2 p1 q1 hd1 hb1).elim
   rw[J8g.isDead_ren]at hd2;have:=h2.inj k1 k2 g1 g2 x1 x2 b q1 q2 p1 p2 hd1 hd2 hb1 hb2;subst this;exact u1.symm.trans u2
  ·intro l o g b ho hg hd hbk;rcases bg ho hg with⟨n1,q1,x1,p1,r1⟩|⟨k1,x1,u1,p1,q1,rfl⟩;·obtain⟨e1,e2,_⟩:=eld n1 q1 p1 (weak r1) hd hbk;exact⟨by omega,(hh.inE l x1 g b p1 q1 e1 hbk).2⟩
   rw[J8g.isDead_ren]at hd;obtain⟨e1,e2⟩:=h2.inE k1 x1 g b p1 q1 hd hbk;refine⟨e1, ?_⟩;rcases e2 with⟨l',o',g',_,h3,h4,h5,h6⟩|e2;·exact(hh.inE l' o' g' b h3 h4 h5 h6).2
   have h8:w.heap.size<=b:=e2;have:=hh.big;exact .inr (by omega)
  ·rintro b ⟨l,o,g,ho,hg,hlv,hbk⟩;rcases bg ho hg with⟨n1,q1,x1,p1,r1⟩|⟨k1,x1,u1,p1,q1,rfl⟩
   ·rcases r1 with⟨rfl,_⟩|rfl;·exact hh.inL b ⟨l,o,g,p1,q1,hlv,hbk⟩
    rw[J8g.live_freeze]at hlv;cases hlv
   rw[J8g.live_ren]at hlv;rcases h2.inL b ⟨k1,x1,g,p1,q1,hlv,hbk⟩with h6|h6;·exact hh.inL b (LO b h6)
   have h8:w.heap.size<=b:=h6;have:=hh.big;exact .inr (by omega)
  ·intro b hb0 hL;have hlt:b<w.heap.size:=Nat.lt_of_lt_of_le hb0 hh.big;rw[fr b hlt,hh.frame b hb0 hL];intro h6;rcases hh.inL b (LO b h6)with h7|h7;·exact hL h7
   omega
  intro l o g ho hg;rcases bg ho hg with⟨n1,q1,x1,p1,r1⟩|⟨k1,x1,u1,p1,q1,rfl⟩
  ·cases hd:o.isDead with
   |true=>cases o<;>simp[J8g.isDead]at hd;trivial
   | false=>
    have hblk:∀b,g.blk=some b->w'.heap[b]? =w.heap[b]?:=(by intro b hbk;obtain⟨e1,e2,e3⟩:=eld n1 q1 p1 (weak r1) hd hbk;exact fr b e2 λh6=>e3 (LE b h6));have:=Jet.mono (Ext.refl G) k hblk x1 (hh.objs l x1 g p1 q1);have hG:Ext G (G++G2.drop back.length):=λl g hl=>by
     have hlt:l<G.length:=by
      rcases Nat.lt_or_ge l G.length with x|x;·exact x
      rw[List.getElem?_eq_none x]at hl;cases hl
     rw[List.getElem?_append_left hlt];exact hl
    have:=Jet.mono hG ⟨λ_ h=>h,λ_ _ _ _ h=>h⟩ (λ_ _=>rfl) x1 this;rcases weak r1 with rfl|rfl;·exact this
    exact Jet.freeze _ this
  refine Jet.ren x1 (Jvr hh hb hx _) ?_;have hobj:=h2.objs k1 x1 g p1 q1;cases hfl':fl with|true=>exact Jet.flat x1 (hfl hfl' x1 (List.mem_of_getElem? p1)) hobj|false=>have:=Jet.mono (Ext.refl G2) (sub2 hfl') (λ_ _=>rfl) x1 hobj;rwa[hfl']at this
 intro l g hl;have hlt:l<G.length:=by
  rcases Nat.lt_or_ge l G.length with x|x;·exact x
  rw[List.getElem?_eq_none x]at hl;cases hl
 rw[List.getElem?_append_left hlt];exact hl
end
end Go.Ax

namespace Go.Ax
variable {P : Program} {T : Tab}
structure Row where
 e:Ty
 xs:List e.den
def J99:J8g->List Step->Option Row
 | .row e xs _,[]=>some ⟨e,xs⟩
 | .box _ s _,p=>match s.get p with| .v (.arr _ e) xs=>some ⟨e,xs⟩|_=>none
 |_,_=>none
theorem Jfb(hb:w.heap[b]? =some (.cells c U f))(hl:∀cs x,R cs x->cs.length=sz)(h:Cat R ((c.toList.drop o).take (xs.length*sz)) xs):Jp6 w sz R b o xs:=by
 intro i x hx;have hi:i<xs.length:=by grind
 have h1:=Cat.at hl x h hi;have h3:xs.getD i x=x:=by rw[List.getD_eq_getElem?_getD,hx];rfl
 rw[h3]at h1;have hle:i*sz+sz<=xs.length*sz:=by grind
 rw[Jli _ _ _ _ _ hle]at h1;refine⟨_,h1,λj hj=> ?_⟩;rw[cell?_here hb];grind
theorem K5m(hg:G[l]? =some g)(ho:Jet G w ok g o)(hd:J99 o p=some r)(k:J9c w w ok ok')(hb:∀b,g.blk=some b->ok' b)(hv:J9e G w ok (.own l p) v) G':J9e G' w ok' (.v (.slice r.e) r.xs) v:=by
 obtain⟨t,cs,⟨g',u,hg',rfl,hu⟩,rfl⟩:=hv;rw[hg]at hg';injection hg' with hg';subst hg';cases o with
 | row e xs lv=>
  cases p with
  |cons _ _=>simp[J99]at hd
  | nil=>
   simp only[J99,Option.some.injEq]at hd;subst hd;obtain⟨h1,h2,h3,h4,h5⟩:=ho;rcases hu with⟨_,_,rfl,rfl⟩|⟨hk,_⟩
   ·refine⟨.slice g.ty,_,⟨by rw[h2], ?_⟩,rfl⟩;refine⟨_,g.cap,by rw[h3],by rw[<-h3];exact h4, ?_⟩;rcases h5 with⟨h5,h6⟩|⟨b,c,U,h5,h6,h7,h8⟩;·simp_all
    right;refine⟨b,0,by rw[h5];rfl,hb b h5, ?_⟩;refine Jfb h6 (λcs x=>J92.len e) ?_;rw[List.drop_zero,<-h3];exact(J92.mono k (.arr g.n e) h8).2
   rw[h1]at hk;cases hk
 | box t s lv=>
  simp only[J99]at hd;split at hd
  ·rename_i n e xs hs;cases hd;obtain⟨h1,h2,b,c,U,h3,h4,h5⟩:=ho;rcases hu with⟨_,hk,_⟩|⟨_,b',o',n',e',hb',hp,rfl,rfl⟩;·rw[h1]at hk;cases hk
   rw[h3]at hb';injection hb' with hb';subst hb';have h6:=J8e.get_ok h5 (by rw[<-h2];exact hp);rw[hs]at h6;obtain⟨he,h7,h8⟩:=h6;injection he with he1 he2;subst he1;subst he2;refine⟨.slice e,_,⟨rfl,some ⟨b,o',none⟩,n,by rw[h7],by rw[h7];exact Nat.le_refl _,.inr ⟨b,o',rfl,hb b h3, ?_⟩⟩,rfl⟩;refine Jfb h4 (λcs x=>J92.len e) ?_;rw[h7];exact Cat.mono (λ_ _=>J92.mono k e) h8
  cases hd
 |map _ _ _ _=>simp[J99]at hd
 |dead=>simp[J99]at hd
theorem Kei e (h:J9e G w ok .nil v):J9e G' w ok' (.v (.slice e) []) v:=by obtain⟨t,cs,⟨⟨e',rfl⟩,rfl⟩,rfl⟩:=h;exact⟨.slice e,[.slice none 0 0],⟨rfl,none,0,rfl,Nat.le_refl _,.inl rfl⟩,rfl⟩
def Jd5:J8e->List J8e
 | .tup a r=>a::Jd5 r
 |_=>[]
theorem Jg6:∀(s:J8e) {vs:List Value},Jkg G w ok s vs->ARel G w ok (Jd5 s) vs
 | .tnil,_,h=>by simp only[Jkg]at h;subst h;exact⟨rfl,λi s v h=>by simp[Jd5]at h⟩
 | .tup a r,_,h=>by obtain⟨v,vs',rfl,⟨t,cs,h1,rfl⟩,h3⟩:=h;obtain⟨e,h4⟩:=Jg6 r h3;refine⟨by simp[Jd5,e],λi s v hs hv=> ?_⟩;cases i with|zero=>simp[Jd5]at hs hv;subst hs;subst hv;exact J9e.of h1|succ i=>exact h4 i s v (by simpa[Jd5]using hs) (by simpa using hv)
 | .undef,_,h=>h.elim
 | .v _ _,_,h=>h.elim
 | .nil,_,h=>h.elim
 | .nilp,_,h=>h.elim
 | .own _ _,_,h=>h.elim
 | .ptr _ _,_,h=>h.elim
 | .ref _ _,_,h=>h.elim
 | .fn _ _,_,h=>h.elim
 | .mp _,_,h=>h.elim
 | .anyb,_,h=>h.elim
 | .node _ _,_,h=>h.elim
def K7z(h:List J8g)(back snap:List Nat)(s s':J8e):Prop:=(s'=s.ren (J9j back)/\∀i∈s.ids,J9y back i=true)\/ (s= .nil/\∃e,s'= .v (.slice e) [])\/ (∃l p o r,s= .own l p/\h[l]? =some o/\o.isDead=false/\J99 o p=some r/\s'= .v (.slice r.e) r.xs/\l∈snap)
def Jtf(h:List J8g)(back snap:List Nat):List J8e->List J8e->Prop
 |[],[]=>True
 |s::r,s'::r'=>K7z h back snap s s'/\Jtf h back snap r r'
 |_,_=>False
theorem Jtf.get:∀{az as':List J8e},Jtf h back snap az as'->az.length=as'.length/\
  ∀(i:Nat) (s':J8e),as'[i]? =some s'->∃s,az[i]? =some s/\K7z h back snap s s'
 |[],[],_=>⟨rfl,λi s' h=>by simp at h⟩
 |s::r,s'::r',h=>by obtain⟨h1,h2⟩:=h;obtain⟨e,h3⟩:=Jtf.get h2;grind
 |[],_::_,h=>h.elim
 |_::_,[],h=>h.elim
theorem Js6(hh:HRG c G h w)(hb:Jbg h back=true)(hdis:∀l∈snap,J9y back l=false)(hp:K7z h back snap s s')(hv:J9e G w (okB c G h w) s v):J9e (back.map λl=>G.getD l default) w (okB (Jan c G h w back snap) (back.map λl=>G.getD l default) (Jcu h back) w) s' v:=by
 have hb':=hb;simp only[Jbg,Bool.and_eq_true]at hb';have k:=Jf3 (snap:=snap) hh hb;rcases hp with⟨rfl,hi⟩|⟨rfl,e,rfl⟩|⟨l,p,o,r,rfl,ho,hd,hr,rfl,hs⟩;·exact J9e.ren s (Jhw hb'.1 hh.len hi) (J9e.mono (Ext.refl G) k s hv)
 ·exact Kei e hv
 have hlt:l<G.length:=by rw[hh.len];grind
 have hg:G[l]? =some G[l]:=List.getElem?_eq_getElem hlt;refine K5m hg (hh.objs l o _ ho hg) hr k (λb hbk=> ?_) hv _;refine⟨(hh.inE l o _ b ho hg hd hbk).1,λ_=>.inr ⟨l,o,_,.inr hs,ho,hg,hd,hbk⟩, ?_⟩;rintro⟨k1,o',g',h1,h2,h3,h4⟩;obtain⟨l',o1,e1,e2,e3,rfl,_⟩:=Jbo hb h1 hh.len h2;rw[J8g.live_ren]at h3;have:=hh.inj l l' _ g' o o1 b hg e3 ho e2 hd (Jfu h3) hbk h4;subst this;have h5:=hdis l hs;unfold J9y at h5;rw[Jah hb'.1 e1]at h5;cases h5
theorem Kcz.call (hop:o.op= .call cl) (hcl:cl.callee= .value f0) (hf0:J9d st.slots f0= .fn f cap) (hfn:P.funcs[f]? =some fn) (hnm:(fn.name== "runtime.NumGoroutine")=false) (hbody:fn.body.isNone=false) (hp:Jtf st.heap back snap (cl.args.toList.map (J9d st.slots)++Jd5 cap) as') (hb:Jbg st.heap back=true) (hdis:∀l∈snap,J9y back l=false) (hcall:Jml P f as' (Jcu st.heap back) ret objs') (hle:back.length<=objs'.length) (hfl:fl=true->ret.flat=true/\∀o∈objs',o.flat=true) (hd:∀d,o.dst=some d->d<st.n):Kcz P o st (Jd9 o (ret.ren (unl st.heap.length back)) st (J9r st.heap back snap fl objs')):=by
 intro c a w hs next Q hn
 obtain⟨G,hs⟩:=hs;have hfv:=J8s hs f0;rw[hf0]at hfv;obtain⟨t,cs,⟨_,caps,rfl,hcap⟩,hpk⟩:=hfv;rename_i ht;subst ht;have hpk:a.eval f0= .func (.func f) #[] caps.toArray:=(by rw[hpk];rfl);have hcaps:=Jg6 _ hcap;have hrel:ARel (back.map λl=>G.getD l default) w (okB (Jan c G st.heap w back snap) (back.map λl=>G.getD l default) (Jcu st.heap back) w) as' ((cl.args.toList.map a.eval)++caps):=by
  obtain⟨e,hget⟩:=hp.get;refine⟨by rw[<-e];simp[hcaps.1],λi s' v hs' hv=> ?_⟩;obtain⟨s,hs1,hs2⟩:=hget i s' hs';refine Js6 hs.toHRG hb hdis hs2 ?_;rcases Nat.lt_or_ge i cl.args.toList.length with hi|hi
  ·rw[List.getElem?_append_left (by simpa using hi),List.getElem?_map]at hs1 hv;cases hx:cl.args.toList[i]? with
   |none=>rw[hx]at hs1;cases hs1
   |some x=>rw[hx]at hs1 hv;simp only[Option.map_some,Option.some.injEq]at hs1 hv;subst hs1;subst hv;exact J8s hs x
  rw[List.getElem?_append_right (by simpa using hi)]at hs1 hv;simp only[List.length_map]at hs1 hv;exact hcaps.2 _ s v hs1 hv
 have hrun:(execOp a.eval o).run P w= .ok (.enter f ((cl.args.toList.map a.eval)++caps).toArray) w:=(by have:(#[]++cl.args.map a.eval++caps.toArray)=((cl.args.toList.map a.eval)++caps).toArray:=(by apply Array.toList_inj.1;simp);have hnm':¬fn.name= "runtime.NumGoroutine" :=(by simpa using hnm);have hbody':¬fn.body=none:=(by intro h;rw[h]at hbody;cases hbody);simp[execOp,hop,resolve,hcl,hpk,Deferred.ofValue,invoke,callFunc,hfn,hnm',hbody',<-this]);simp only[Oper.wp,hrun,Oper.upon];refine Calls.mono (hcall (Jan c G st.heap w back snap) _ _ (Jjk hs.toHRG hb) rfl hrel) ?_;rintro e w' ⟨v,G2,rfl,h2,hv,hx⟩;obtain⟨r1,r2,r3,r4⟩:=Jgp hs.toHRG hb hdis hle (λh=>(hfl h).2) h2 hx
 have hon:=hs.on r1 r2 r3;show next (a.put o.dst v) w'
 refine hn (a.put o.dst v) w' ⟨G++G2.drop back.length, ?_⟩;unfold Jd9;cases hdst:o.dst with|none=>exact hon|some d=>exact hon.put (hd d hdst) (r4 ret v (λh=>(hfl h).1) hv)
end Go.Ax

namespace Go.Ax
variable {P : Program} {T : Tab}
def Jdk(ids:List Nat):List J8g->Nat->List J8g
 |[],_=>[]
 |o::r,l=>(bif J9y ids l then o.freeze else o)::Jdk ids r (l+1)
def freezeIds(h:List J8g)(ids:List Nat):List J8g:=match ids with|[]=>h|ids=>Jdk ids h 0
theorem Ji8 ids:∀(h:List J8g) (l i:Nat),(Jdk ids h l)[i]? =(h[i]?).map (λo=>bif J9y ids (l+i)then o.freeze else o)
 |[],_,_=>rfl
 |o::r,l,0=>rfl
 |o::r,l,i+1=>by simp only[Jdk,List.getElem?_cons_succ];rw[Ji8 ids r (l+1) i,show l+1+i=l+(i+1)by omega]
theorem Ji9 ids:∀(h:List J8g) (l:Nat),(Jdk ids h l).length=h.length
 |[],_=>rfl
 |_::r,l=>by simp[Jdk,Ji9 ids r (l+1)]
theorem Jby(hm:l∈s):J9y s l=true:=by
 induction s with
 |nil=>cases hm
 |cons x r ih=>
  unfold J9y Jeq;by_cases e:x=l;·subst e;simp
  have e2:Nat.beq x l=false:=(by rw[<-Bool.not_eq_true,Nat.beq_eq];exact e);have:=ih (by rcases List.mem_cons.1 hm with h|h;exact absurd h.symm e;exact h);unfold J9y at this;grind
theorem Jc2 h ids (i:Nat):(freezeIds h ids)[i]? =(h[i]?).map (λo=>bif J9y ids i then o.freeze else o):=by
 unfold freezeIds;split;·simp[J9y,Jeq]
 rw[Ji8,Nat.zero_add]
theorem Jjd(h:List J8g) ids:(freezeIds h ids).length=h.length:=by
 unfold freezeIds;split;·rfl
 exact Ji9 _ _ _
theorem HRG.freezeIds(hh:HRG c G h w) ids:HRG c G (freezeIds h ids) w/\J9c w w (okB c G h w) (okB c G (Ax.freezeIds h ids) w):=by refine hh.shrink (Jjd h ids) λl o o' ho ho'=> ?_;rw[Jc2]at ho';grind
def Jad(h:List J8g):(t:Ty)->J8e->Option t.den
 |t,.v t' x=>cast? t' t x
 | .slice _,.nil=>some []
 | .slice e,.own l p=>match J99 (J8m h l) p with|some r=>cast? (.slice r.e) (.slice e) r.xs|none=>none
 | .fld a r,.node s1 s2=>match Jad h a s1,Jad h r s2 with|some x,some y=>some (x,y)|_,_=>none
 |_,_=>none
theorem Jcs(h:cast? t t' x=some y):∃e:t=t',e▸x=y:=by unfold cast? at h;grind
theorem Jua(hh:HRG c G h w)(ho:h[l]? =some o)(hg:G[l]? =some g)(hd:o.isDead=false)(hb:g.blk=some b)(hl:l∈ids):okB c G (freezeIds h ids) w b:=by
 obtain⟨h1,h2⟩:=hh.inE l o g b ho hg hd hb;refine⟨h1,λh3=> ?_, ?_⟩
 ·rcases h2 with h2|h2;·exact hh.EA b h2
  omega
 rintro⟨l',o',g',e1,e2,e3,e4⟩;rw[Jc2]at e1;cases ho':h[l']? with
 |none=>rw[ho']at e1;cases e1
 | some o2=>
  rw[ho']at e1;simp at e1;have hlv:o2.live=true/\J9y ids l'=false:=by
   cases hi:J9y ids l' with
   |true=>rw[hi]at e1;simp only[cond_true]at e1;rw[<-e1,J8g.live_freeze]at e3;cases e3
   |false=>rw[hi]at e1;rw[<-e1]at e3;exact⟨e3,rfl⟩
  have:=hh.inj l l' g g' o o2 b hg e2 ho ho' hd (Jfu hlv.1) hb e4;subst this;rw[Jby hl]at hlv;cases hlv.2
theorem Jjo(hd:J99 (J8m h l) p=some r):h[l]? =some (J8m h l)/\(J8m h l).isDead=false:=by
 unfold J8m at*
 rw[List.getD_eq_getElem?_getD]at*
 cases hh:h[l]? with|none=>rw[hh]at hd;simp[J99]at hd|some o=>rw[hh]at hd;simp only[Option.getD_some]at*;exact⟨trivial,by cases o<;>simp_all [J99,J8g.isDead]⟩
theorem Ken(h:J90 G w ok (.own l p) t cs):J9e G w ok (.own l p) (pack t cs):=⟨t,cs,h,rfl⟩
theorem Jgm(hh:HRG c G h w):∀(t:Ty) (s:J8e) {t2:Ty} {x:t.den} {cs:List Value},(∀l∈s.ids,l∈ids)->Jad h t s=some x->J90 G w (okB c G h w) s t2 cs-> J92 w (okB c G (freezeIds h ids) w) t cs x/\t.isAgg=t2.isAgg:=by
 intro t s;have k:=(hh.freezeIds ids).2;fun_induction Jad h t s with
 |case1 t t' x=>
  intro t2 y cs _ hx hs
  obtain⟨e,hx⟩:=Jcs hx
  subst e;subst hx
  obtain⟨e2,hs⟩:=hs
  exact⟨J92.mono k _ hs,by rw[e2]⟩
 |case2 e=>
  intro t2 y cs _ hx hs
  injection hx with hx;subst hx
  obtain⟨⟨e',rfl⟩,rfl⟩:=hs
  exact⟨⟨none,0,rfl,Nat.le_refl _,.inl rfl⟩,rfl⟩
 | case3 e l p r hr=>
  intro t2 y cs hi hx hs
  obtain⟨he,hx⟩:=Jcs hx
  injection he with he;subst he;subst hx
  obtain⟨ho,hd⟩:=Jjo hr
  obtain⟨g,v,hg,rfl,hv⟩:=id hs
  have hv2:=K5m (ok':=okB c G (freezeIds h ids) w) hg (hh.objs l _ g ho hg) hr k
   (λb hb=>Jua hh ho hg hd hb (hi l (by simp[J8e.ids]))) (Ken hs) G
  have ha:t2.isAgg=false:=by rcases hv with⟨_,_,rfl,_⟩|⟨_,_,_,_,_,_,_,rfl,_⟩<;>rfl
  obtain⟨t,cs,⟨rfl,h2⟩,h3⟩:=hv2
  have h4:v=pack (.slice r.e) cs:=by rw[<-h3];simp[pack,ha]
  obtain⟨a,n,rfl,h5⟩:=h2
  subst h4
  exact⟨⟨a,n,rfl,h5⟩,by rw[ha];rfl⟩
 |case4=>intro t2 y cs _ hx _;cases hx
 |case5 a r s1 s2 x y hx hy ih1 ih2=>
  intro t2 z cs hi hz hs
  cases hz
  obtain⟨ta,tr,rfl,c1,c2,rfl,h1,h2⟩:=hs
  exact⟨⟨c1,c2,rfl,(ih1 (λl hl=>hi l (by simp[J8e.ids,hl])) hy h1).1,(ih2 (λl hl=>hi l (by simp[J8e.ids,hl])) hx h2).1⟩,rfl⟩
 |case6=>intro t2 y cs _ hx _;cases hx
 |case7=>intro t2 y cs _ hx _;cases hx
theorem Js4(h:t.isAgg=t2.isAgg):pack t cs=pack t2 cs:=by simp[pack,h]
theorem Jbw(hh:HRG c G h w)(hi:∀l∈s.ids,l∈ids)(hx:Jad h t s=some x)(hv:J9e G w (okB c G h w) s v):∃cs,J92 w (okB c G (freezeIds h ids) w) t cs x/\v=pack t cs:=by
 have:∃t2 cs,J90 G w (okB c G h w) s t2 cs/\v=pack t2 cs:=by
  cases s<;>first
   |exact hv
   |(cases t<;>cases hx)
 obtain⟨t2,cs,h1,rfl⟩:=this;obtain⟨h2,h3⟩:=Jgm hh t s hi hx h1;exact⟨cs,h2,(Js4 h3).symm⟩
theorem Jcw.val(hx:Jad st.heap t (look st.slots i)=some x):Jcw st {st with slots:=(i,.v t x)::st.slots,heap:=freezeIds st.heap (look st.slots i).ids}:=by
 rintro c a w ⟨G,hs⟩;obtain⟨h1,k⟩:=hs.toHRG.freezeIds (look st.slots i).ids;obtain⟨cs,h4,h3⟩:=Jbw hs.toHRG (λl hl=>hl) hx (hs.slots i)
 refine⟨G,h1,λj=> ?_,hs.ent,hs.em,hs.sz,hs.nodef⟩;rw[Jbb];split;·rename_i e;subst e;exact⟨t,cs,⟨rfl,h4⟩,h3⟩
 exact J9e.mono (Ext.refl G) k _ (hs.slots j)
def Je7:List Nat->Nat->Nat->Bool
 |_,_,0=>true
 |[],_,_+1=>false
 |k::r,i,n+1=>Nat.beq k i&&Je7 r (i+1) n
theorem Jlb:∀{ks:List Nat} {i n j:Nat},Je7 ks i n=true->j<n->ks[j]? =some (i+j)
 |[],_,n+1,_,h,_=>by simp[Je7]at h
 |k::r,i,n+1,0,h,_=>by simp[Je7]at h;simp[h.1]
 |k::r,i,n+1,j+1,h,hj=>by simp only[Je7,Bool.and_eq_true]at h;rw[List.getElem?_cons_succ,Jlb h.2 (by omega)];congr 1;omega
 |_,_,0,_,_,hj=>by omega
theorem K6k(hh:HRG c G h w)(hb:Jbg h ks=true):HRG c (ks.map λl=>G.getD l default) (Jcu h ks) w/\J9c w w (okB c G h w) (okB c (ks.map λl=>G.getD l default) (Jcu h ks) w):=by
 have hb':=hb;simp only[Jbg,Bool.and_eq_true]at hb';have own:∀b,Jge (ks.map λl=>G.getD l default) (Jcu h ks) b->Jge G h b:=by rintro b ⟨k,o',g,h1,h2,h3,h4⟩;obtain⟨l,o,e1,e2,e3,rfl,_⟩:=Jbo hb h1 hh.len h2;rw[J8g.live_ren]at h3;exact⟨l,o,g,e2,e3,h3,h4⟩
 have k:J9c w w (okB c G h w) (okB c (ks.map λl=>G.getD l default) (Jcu h ks) w):=
   ⟨λb hb=>⟨hb.1,hb.2.1,λho=>hb.2.2 (own b ho)⟩,λ_ _ _ _ h=>h⟩
 refine⟨?_,k⟩
 refine { EA:=hh.EA,len:=by simp[Jcu],inj:= ?_,inE:= ?_,inL:=λb hb=>hh.inL b (own b hb),frame:=hh.frame,big:=hh.big,os:=hh.os,tape:=hh.tape,
          output:=hh.output,objs:= ?_}
 ·intro k1 k2 g1 g2 o1 o2 b hg1 hg2 ho1 ho2 hd1 hd2 hb1 hb2;obtain⟨l1,x1,e1,e2,e3,rfl,_⟩:=Jbo hb ho1 hh.len hg1;obtain⟨l2,x2,f1,f2,f3,rfl,_⟩:=Jbo hb ho2 hh.len hg2;rw[J8g.isDead_ren]at hd1 hd2;have:=hh.inj l1 l2 g1 g2 x1 x2 b e3 f3 e2 f2 hd1 hd2 hb1 hb2;subst this;have h1:=Jah hb'.1 e1;have h2:=Jah hb'.1 f1;rw[h1]at h2;injection h2
 ·intro k o' g b ho hg hd hbk;obtain⟨l,o,e1,e2,e3,rfl,_⟩:=Jbo hb ho hh.len hg;rw[J8g.isDead_ren]at hd;exact hh.inE l o g b e2 e3 hd hbk
 intro k1 o' g ho hg;obtain⟨l,o,e1,e2,e3,rfl,hids⟩:=Jbo hb ho hh.len hg;have:=hh.objs l o g e2 e3;exact Jet.ren o (Jhw hb'.1 hh.len hids) (Jet.mono (Ext.refl G) k (λ_ _=>rfl) o this)
def Jdh(ks:List Nat)(ss:List (Nat×J8e)):List Nat->List (Nat×J8e)
 |[]=>[]
 |i::r=>(i,(look ss i).ren (J9j ks))::Jdh ks ss r
theorem Jzn ks ss:∀(is:List Nat) (j:Nat),look (Jdh ks ss is) j= .undef\/(j∈is/\look (Jdh ks ss is) j=(look ss j).ren (J9j ks))
 |[],_=>.inl rfl
 |i::r,j=>by
  rw[Jdh,Jbb];split;·grind
  rcases Jzn ks ss r j with h|⟨h1,h2⟩;·exact .inl h
  grind
def K9d(ks:List Nat)(ss:List (Nat×J8e))(is:List Nat):Bool:=is.all λi=>(look ss i).ids.all (J9y ks)
theorem Jcw.sel(hb:Jbg st.heap ks=true)(hs:Je7 ks 0 st.m=true)(hi:K9d ks st.slots is=true):Jcw st {st with slots:=Jdh ks st.slots is,heap:=Jcu st.heap ks}:=by
 rintro c a w ⟨G,hr⟩;have hb':=hb;simp only[Jbg,Bool.and_eq_true]at hb';obtain⟨h1,k⟩:=K6k hr.toHRG hb;refine⟨_,h1,λj=> ?_, ?_,hr.em,hr.sz,hr.nodef⟩
 ·rcases Jzn ks st.slots is j with h|⟨h2,h3⟩;·rw[h];trivial
  rw[h3];simp only[K9d,List.all_eq_true]at hi;exact J9e.ren _ (Jhw hb'.1 hr.len (hi j h2)) (J9e.mono (Ext.refl G) k _ (hr.slots j))
 intro l g hl;have hlt:l<st.m:=by rw[<-hr.em];grind
 have h2:=Jlb hs hlt;rw[List.getElem?_map,h2];have:=hr.ent l g hl;simp[this]
theorem Jcw.promote(h:look st.slots i= .nil):Jcw st {st with slots:=(i,.own st.heap.length [])::st.slots,heap:=st.heap++[.row e [] true]}:=by
 rintro c a w ⟨G,hr⟩;obtain⟨h1,k⟩:=hr.toHRG.fresh (o:=.row e [] true) (g:=⟨.row,none,e,0,0⟩) rfl (λok'=>⟨rfl,rfl,rfl,Nat.le_refl _,.inl ⟨rfl,rfl⟩⟩)
 have hon:=hr.on h1 (Ext.snoc _ _) k;refine⟨_,h1,λj=> ?_,hon.ent,hr.em,hr.sz,hr.nodef⟩;rw[Jbb];split;·rename_i e1;subst e1;have:=hr.slots i;rw[h]at this;obtain⟨t,cs,⟨⟨e',rfl⟩,rfl⟩,h3⟩:=this;refine⟨.slice e,[.slice none 0 0],⟨⟨.row,none,e,0,0⟩,_, ?_,rfl,.inl ⟨rfl,rfl,rfl,rfl⟩⟩,h3⟩;rw[<-hr.len];simp
 exact hon.slots j
theorem J8v.sel(hb:Jbg h ks=true)(hs:Je7 ks 0 m=true)(hi:r.ids.all (J9y ks)=true):J8v m r h (r.ren (J9j ks)) (Jcu h ks):=by intro c G w v hh hv;have hb':=hb;simp only[Jbg,Bool.and_eq_true]at hb';obtain⟨h1,k⟩:=K6k hh hb;simp at hi;refine⟨_,h1,J9e.ren r (Jhw hb'.1 hh.len hi) (J9e.mono (Ext.refl G) k r hv),λl g hl hg=> ?_⟩;have h2:=Jlb hs hl;grind
def valTup(h:List J8g):List Ty->J8e->Option J8e
 |[],.tnil=>some .tnil
 |t::ts,.tup a r=>match Jad h t a,valTup h ts r with|some x,some s=>some (.tup (.v t x) s)|_,_=>none
 |_,_=>none
theorem K2e(hh:HRG c G h w):∀(ts:List Ty) (s:J8e) {s':J8e} {vs:List Value},(∀l∈s.ids,l∈ids)->valTup h ts s=some s'->Jkg G w (okB c G h w) s vs->Jkg G w (okB c G (freezeIds h ids) w) s' vs:=by
 intro ts s;fun_induction valTup h ts s with
 |case1=>intro s' vs _ hx hs;injection hx with hx;subst hx;exact hs
 |case2 t ts a r x s hx hs ih=>
  intro s' vs hi hx' hv
  cases hx'
  obtain⟨v,vs',rfl,⟨t2,cs,h1,rfl⟩,h3⟩:=hv
  obtain⟨h4,h5⟩:=Jgm hh t a (λl hl=>hi l (by simp[J8e.ids,hl])) hs h1
  exact⟨_,vs',rfl,⟨t,cs,⟨rfl,h4⟩,(Js4 h5).symm⟩,ih (λl hl=>hi l (by simp[J8e.ids,hl])) hx h3⟩
 |case3=>intro s' vs _ hx _;cases hx
 |case4=>intro s' vs _ hx _;cases hx
theorem J8v.val(hx:Jad h t r=some x):J8v m r h (.v t x) (freezeIds h r.ids):=by
 intro c G w v hh hv;obtain⟨cs,h4,h3⟩:=Jbw hh (λl hl=>hl) hx hv
 exact⟨G,(hh.freezeIds r.ids).1,⟨t,cs,⟨rfl,h4⟩,h3⟩,λ_ _ _ h=>h⟩
theorem J8v.valTup(hx:Ax.valTup h (t::ts) r=some r'):J8v m r h r' (freezeIds h r.ids):=by
 intro c G w v hh hv;cases r with
 |tup a r=>obtain⟨vs,rfl,h1⟩:=hv;have h2:=K2e hh (t::ts) (.tup a r) (λl hl=>hl) hx h1;refine⟨G,(hh.freezeIds _).1, ?_,λ_ _ _ h=>h⟩;cases r' with|tup a' r'=>exact⟨vs,rfl,h2⟩|tnil=>simp only[Jkg]at h2;subst h2;rfl|_=>exact h2.elim
 |_=>simp[Ax.valTup]at hx
end Go.Ax

namespace Go.Ax
open Ieee
theorem Jyu neg (n:Nat):Toward.even.cut neg n 0=n:=by simp[Toward.cut,Nat.mod_one]
theorem Jmz:Ieee.double.leastPlace= -1074:=by decide+kernel
theorem Jko:Ieee.double.binade=4503599627370496:=by decide+kernel
theorem Jwi:Ieee.double.infRung=9218868437227405312:=by decide+kernel
theorem Jr9:Ieee.double.signWeight=9223372036854775808:=by decide+kernel
theorem Jyv:Ieee.double.fractionBits=52:=rfl
theorem mant(mag:Nat)(h0:mag≠0)(h:mag<9007199254740992):mag.log2<=52/\4503599627370496<=mag*2^(52 - mag.log2)/\mag*2^(52 - mag.log2)<9007199254740992:=by
 have hl:mag.log2<53:=(Nat.log2_lt h0).2 (by rw[show 2^53=9007199254740992 by decide+kernel];exact h);have h1:2^mag.log2<=mag:=Nat.log2_self_le h0;have h2:mag<2^(mag.log2+1):=Nat.lt_log2_self;have e1:2^mag.log2*2^(52 - mag.log2)=4503599627370496:=by rw[<-Nat.pow_add,show mag.log2+(52 - mag.log2)=52 by omega]
 have e2:2^(mag.log2+1)*2^(52 - mag.log2)=9007199254740992:=by grind
 refine⟨by omega, ?_, ?_⟩;·rw[<-e1];exact Nat.mul_le_mul_right _ h1
 rw[<-e2];exact Nat.mul_lt_mul_of_pos_right h2 (Nat.two_pow_pos _)
theorem Jq8 neg (mag:Nat) (h0:mag≠0) (h:mag<9007199254740992):Ieee.double.nearest neg mag 0=Ieee.double.word neg ((mag.log2+1022)*4503599627370496+mag*2^(52 - mag.log2)):=by
 obtain⟨hl,a1,a2⟩:=mant mag h0 h;unfold Format.nearest;rw[if_neg h0,Jmz,Jyv,Jko,Jwi];generalize hlg:mag.log2=L at*
 have hlast:max (0+(L:Int) - (52:Nat)) (-1074)=(L:Int) - 52:=by omega
 rw[hlast];have d1:((0:Int) - ((L:Int) - 52)).toNat=52 - L:=by omega
 have d2:((L:Int) - 52 - 0).toNat=0:=by omega
 have d3:((L:Int) - 52 - (-1074)).toNat=L+1022:=by omega
 dsimp only;rw[d1,d2,d3,Jyu,Nat.shiftLeft_eq];grind
theorem Jju(L:Nat)(h:L<=52):(-1074+((L+1022+1 - 1:Nat):Int))= -((52 - L:Nat):Int):=by omega
theorem Jbk(n:Int)(h:n.natAbs<9007199254740992):∃(m:Nat) (p:Nat),FloatKind.f64.decode (FloatKind.f64.nearest n)= .number (decide (n<0)) m (-(p:Int))/\ m=n.natAbs*2^p:=by
 by_cases h0:n=0
 ·subst h0;have hz:FloatKind.f64.decode (FloatKind.f64.nearest 0)= .number (decide ((0:Int)<0)) 0 (-((1074:Nat):Int)):=by decide+kernel
  generalize (1074:Nat)=p at hz;grind
 have h0':n.natAbs≠0:=by omega
 obtain⟨hl,a1,a2⟩:=mant n.natAbs h0' h;have e:=Jq8 (decide (n<0)) n.natAbs h0' h;refine⟨n.natAbs*2^(52 - n.natAbs.log2),52 - n.natAbs.log2, ?_,rfl⟩;show Ieee.double.read (Ieee.double.nearest (decide (n<0)) n.natAbs 0)=_;rw[e];generalize n.natAbs.log2=L at*
 generalize n.natAbs*2^(52 - L)=K at*
 generalize hr:(L+1022)*4503599627370496+K=rung;have r1:rung<9218868437227405312:=by omega
 have q1:Ieee.double.word (decide (n<0)) rung / 9223372036854775808%2=(decide (n<0)).toNat:=by unfold Format.word;rw[Jr9];grind
 have q2:Ieee.double.word (decide (n<0)) rung%9223372036854775808=rung:=by unfold Format.word;rw[Jr9];grind
 unfold Format.read;rw[Jr9,Jko,Jwi,Jmz,q1,q2];rw[if_neg (by omega),if_pos r1];have s1:rung / 4503599627370496=L+1022+1:=by omega
 have s2:rung%4503599627370496=K - 4503599627370496:=by omega
 have t1:((decide (n<0)).toNat==1)=decide (n<0):=by cases decide (n<0)<;>rfl
 grind
theorem Jk4(n:Int)(m p:Nat)(q:Int)(hm:m=n.natAbs*2^p)(hq:q<= -(p:Int)):signed (decide (n<0)) m ((-(p:Int) - q).toNat)=n*2^((-q).toNat):=by
 have e:p+(-(p:Int) - q).toNat=(-q).toNat:=by omega
 unfold signed;rw[Nat.shiftLeft_eq,hm,Nat.mul_assoc,<-Nat.pow_add,e];grind
theorem Jfw(a b:Int)(ha:a.natAbs<9007199254740992)(hb:b.natAbs<9007199254740992):FloatKind.f64.format.order (FloatKind.f64.nearest a) (FloatKind.f64.nearest b)=some (compare a b):=by
 obtain⟨m,p,e1,e2⟩:=Jbk a ha;obtain⟨m',p',f1,f2⟩:=Jbk b hb;have e1':FloatKind.f64.format.read (FloatKind.f64.nearest a)=_:=e1;have f1':FloatKind.f64.format.read (FloatKind.f64.nearest b)=_:=f1;unfold Format.order;rw[e1',f1'];simp only[Datum.order];rw[Jk4 a m p _ e2 (by omega),Jk4 b m' p' _ f2 (by omega)];generalize (-min (-(p:Int)) (-(p':Int))).toNat=k;have hk:(0:Int)<2^k:=Int.pow_pos (by decide);have e:compare (a*2^k) (b*2^k)=compare a b:=by show compareOfLessAndEq _ _=compareOfLessAndEq _ _;unfold compareOfLessAndEq;have c1:(a*2^k<b*2^k)↔a<b:=⟨λh=>Int.lt_of_mul_lt_mul_right h (Int.le_of_lt hk),λh=>Int.mul_lt_mul_of_pos_right h hk⟩;have c2:(a*2^k=b*2^k)↔a=b:=⟨λh=>Int.eq_of_mul_eq_mul_right (Int.ne_of_gt hk) h,λh=>by rw[h]⟩;simp only[c1,c2]
 rw[e]
theorem Jt0(a:Int)(ha:a.natAbs<9007199254740992):(FloatKind.f64.decode (FloatKind.f64.nearest a)).toInt .zero=some a:=by
 obtain⟨m,p,e1,e2⟩:=Jbk a ha;rw[e1];simp only[Datum.toInt,Datum.integral];have h1:(-(p:Int)).toNat=0:=by omega
 have h2:(- -(p:Int)).toNat=p:=by omega
 rw[h1,h2,Nat.shiftLeft_zero];have hc:Toward.zero.cut (decide (a<0)) m p=a.natAbs:=by
  unfold Toward.cut;simp only[Bool.toNat_false,Nat.add_zero,Nat.shiftLeft_eq,Nat.one_mul];by_cases hm:a.natAbs=0;·simp_all
  have hle:p<=m.log2+2:=(by have:2^p<=m:=(by rw[e2];exact Nat.le_mul_of_pos_left _ (by omega));have:=(Nat.le_log2 (by intro h;rw[h]at this;have:=Nat.two_pow_pos p;omega)).2 this;omega);rw[Nat.min_eq_left hle,e2,Nat.mul_div_cancel _ (Nat.two_pow_pos p)]
 rw[hc];unfold signed;grind
theorem K3p neg q d (hq:q≠0):Toward.even.cut neg (q*2^d) d=q:=by
 have hle:d<=(q*2^d).log2:=by have h1:2^d<=q*2^d:=Nat.le_mul_of_pos_left _ (by omega);exact(Nat.le_log2 (by have:=Nat.two_pow_pos d;omega)).2 h1
 unfold Toward.cut;have hg:1<<<min d ((q*2^d).log2+2)=2^d:=by rw[Nat.min_eq_left (by omega),Nat.shiftLeft_eq,Nat.one_mul]
 simp only[hg];have hp:=Nat.two_pow_pos d;simp_all
theorem Ked(m k:Nat)(h:m≠0):(m*2^k).log2=m.log2+k:=by
 have hp:=Nat.two_pow_pos k;have h1:2^m.log2<=m:=Nat.log2_self_le h;have h2:m<2^(m.log2+1):=Nat.lt_log2_self;have hn:m*2^k≠0:=by have:=Nat.mul_pos (Nat.pos_of_ne_zero h) hp;omega
 refine Nat.le_antisymm ?_ ((Nat.le_log2 hn).2 (by rw[Nat.pow_add];exact Nat.mul_le_mul_right _ h1));refine Nat.le_of_lt_succ ((Nat.log2_lt hn).2 ?_);show m*2^k<2^(m.log2+k+1);rw[show m.log2+k+1=(m.log2+1)+k by omega,Nat.pow_add];simp_all
theorem K1m neg (m k:Nat) (h0:m≠0) (h:m<9007199254740992):Ieee.double.nearest neg (m*2^k) (-(k:Int))=Ieee.double.nearest neg m 0:=by
 rw[Jq8 neg m h0 h];obtain⟨hl,a1,a2⟩:=mant m h0 h;have hp:=Nat.two_pow_pos k;unfold Format.nearest;rw[if_neg (by have:=Nat.mul_pos (Nat.pos_of_ne_zero h0) hp;omega),Jmz,Jyv,Jko,Jwi,Ked m k h0];generalize hlg:m.log2=L at*
 have hlast:max (-(k:Int)+((L+k:Nat):Int) - (52:Nat)) (-1074)=(L:Int) - 52:=by omega
 rw[hlast];have hc:Toward.even.cut neg ((m*2^k)<<<(-(k:Int) - ((L:Int) - 52)).toNat) (((L:Int) - 52) - -(k:Int)).toNat=m*2^(52 - L):=by
  by_cases c:k<=52 - L;·rw[show(((L:Int) - 52) - -(k:Int)).toNat=0 by omega,Jyu,Nat.shiftLeft_eq,Nat.mul_assoc,<-Nat.pow_add,show k+(-(k:Int) - ((L:Int) - 52)).toNat=52 - L by omega]
  rw[show(-(k:Int) - ((L:Int) - 52)).toNat=0 by omega,Nat.shiftLeft_zero];generalize hd:(((L:Int) - 52) - -(k:Int)).toNat=d;have e:m*2^k=m*2^(52 - L)*2^d:=(by rw[Nat.mul_assoc,<-Nat.pow_add,show 52 - L+d=k by omega]);rw[e,K3p _ _ _ (by omega)]
 dsimp only;rw[hc];have d3:((L:Int) - 52 - (-1074)).toNat=L+1022:=by omega
 rw[d3,Nat.min_eq_left (by omega)]
theorem Jw9(a b:Int)(ha:a.natAbs<9007199254740992)(hb:b.natAbs<9007199254740992)(hc:(a+b).natAbs<9007199254740992):FloatKind.f64.format.add (FloatKind.f64.nearest a) (FloatKind.f64.nearest b)=some (FloatKind.f64.nearest (a+b)):=by
 obtain⟨m,p,e1,e2⟩:=Jbk a ha;obtain⟨m',p',f1,f2⟩:=Jbk b hb;have e1':FloatKind.f64.format.read (FloatKind.f64.nearest a)=_:=e1;have f1':FloatKind.f64.format.read (FloatKind.f64.nearest b)=_:=f1;unfold Format.add;rw[e1',f1'];simp only[Datum.sum,Option.map_some];rw[Jk4 a m p _ e2 (by omega),Jk4 b m' p' _ f2 (by omega)];have hbase:min (-(p:Int)) (-(p':Int))= -(((-min (-(p:Int)) (-(p':Int))).toNat:Nat):Int):=by omega
 rw[hbase];generalize hk:(-min (-(p:Int)) (-(p':Int))).toNat=k;rw[show(- -(k:Int)).toNat=k by omega,<-Int.add_mul];have hp:(0:Int)<2^k:=Int.pow_pos (by decide);show some (Ieee.double.nearest _ _ _)=some (Ieee.double.nearest _ _ _);by_cases h0:a+b=0
 ·rw[h0,Int.zero_mul,if_pos rfl];have hs:(decide (a<0)&&decide (b<0))=false:=by grind
  rw[hs,show decide ((0:Int)<0)=false from rfl,show(0:Int).natAbs=0 from rfl];unfold Format.nearest;rw[if_pos rfl,if_pos rfl]
 have hne:(a+b)*2^k≠0:=Int.mul_ne_zero h0 (by omega);rw[if_neg hne];have hn:((a+b)*2^k).natAbs=(a+b).natAbs*2^k:=by rw[Int.natAbs_mul];rw[Int.natAbs_pow];rfl
 have hd:decide ((a+b)*2^k<0)=decide (a+b<0):=by rw[decide_eq_decide];exact⟨λh=>Int.not_le.1 λc=>by have:=Int.mul_nonneg c (Int.le_of_lt hp);omega,λh=>Int.mul_neg_of_neg_of_pos h hp⟩
 rw[hn,hd,K1m _ _ _ (by omega) hc]
end Go.Ax

namespace Go.Ax
variable {P : Program} {T : Tab}
abbrev Res:=Option (List Prop×J8e)
def Jb2:List Prop->Prop
 |[]=>True
 |p::r=>p/\Jb2 r
theorem Jb2.append:∀{a b:List Prop},Jb2 (a++b)->Jb2 a/\Jb2 b
 |[],_,h=>⟨trivial,h⟩
 |_::_,_,h=>⟨⟨h.1,(Jb2.append h.2).1⟩,(Jb2.append h.2).2⟩
def w64(n:Int):Int:=IntKind.i64.wrap n
def Jp7(x y:Int):Int:=IntKind.i64.wrap (BitVec.ofInt 64 x&&& BitVec.ofInt 64 y).toNat
def bor(x y:Int):Int:=IntKind.i64.wrap (BitVec.ofInt 64 x|||BitVec.ofInt 64 y).toNat
def bxor(x y:Int):Int:=IntKind.i64.wrap (BitVec.ofInt 64 x^^^BitVec.ofInt 64 y).toNat
def Jx5(x:Int)(n:Nat):Int:=w64 (x*2^min n 64)
def ishr(x:Int)(n:Nat):Int:=x.fdiv (2^min n 64)
theorem J9n(h1: -9223372036854775808<=n)(h2:n<=9223372036854775807):w64 n=n:=by
 have:IntKind.i64.wrap n=if n%18446744073709551616≥9223372036854775808 then n%18446744073709551616 - 18446744073709551616 else n%18446744073709551616:=by simp[IntKind.wrap,IntKind.bits,IntKind.signed]
 unfold w64;rw[this];split<;>omega
section
variable {G : List GE} {w : World} {ok : Nat → Prop}
theorem Jgf(h:J9e G w ok (.v (.int k) x) v):v= .int k (IK.toInt k x):=by obtain⟨t,cs,⟨rfl,rfl⟩,rfl⟩:=h;rfl
theorem Jmp(h:J9e G w ok (.v .bool x) v):v= .bool x:=by obtain⟨t,cs,⟨rfl,rfl⟩,rfl⟩:=h;rfl
theorem Jlw(h:J9e G w ok (.v .str x) v):v= .string ⟨x.toArray⟩:=by obtain⟨t,cs,⟨rfl,rfl⟩,rfl⟩:=h;rfl
theorem K2q(h:J9e G w ok (.v .flt x) v):x.natAbs<9007199254740992/\v= .float .f64 (FloatKind.f64.nearest x):=by obtain⟨t,cs,⟨rfl,h1,rfl⟩,rfl⟩:=h;exact⟨h1,rfl⟩
theorem Jyi(h:J9e G w ok (.v .cplx x) v):(x.1.natAbs<9007199254740992/\x.2.natAbs<9007199254740992)/\v= .complex .f64 (FloatKind.f64.nearest x.1) (FloatKind.f64.nearest x.2):=by obtain⟨t,cs,⟨rfl,h1,rfl⟩,rfl⟩:=h;exact⟨h1,rfl⟩
theorem Jaf k x:J9e G w ok (.v (.int k) x) (.int k (IK.toInt k x)):=⟨.int k,_,⟨rfl,rfl⟩,rfl⟩
theorem Jcg x:J9e G w ok (.v .bool x) (.bool x):=⟨.bool,_,⟨rfl,rfl⟩,rfl⟩
theorem K0k(x:List UInt8):J9e G w ok (.v .str x) (.string ⟨x.toArray⟩):=⟨.str,_,⟨rfl,rfl⟩,rfl⟩
theorem K7x(h:x.natAbs<9007199254740992):J9e G w ok (.v .flt x) (.float .f64 (FloatKind.f64.nearest x)):=⟨.flt,_,⟨rfl,h,rfl⟩,rfl⟩
theorem M_cplx(h:x.1.natAbs<9007199254740992/\x.2.natAbs<9007199254740992):J9e G w ok (.v .cplx x) (.complex .f64 (FloatKind.f64.nearest x.1) (FloatKind.f64.nearest x.2)):=⟨.cplx,_,⟨rfl,h,rfl⟩,rfl⟩
end
def K2y(op:BinOp)(x y:Int):Res:=
 match op with
 | .add=>some ([],.v (.int .i64) (w64 (x+y)))
 | .sub=>some ([],.v (.int .i64) (w64 (x - y)))
 | .mul=>some ([],.v (.int .i64) (w64 (x*y)))
 | .quo=>some ([y≠0],.v (.int .i64) (w64 (x.tdiv y)))
 | .rem=>some ([y≠0],.v (.int .i64) (x.tmod y))
 | .and=>some ([],.v (.int .i64) (Jp7 x y))
 | .or=>some ([],.v (.int .i64) (bor x y))
 | .xor=>some ([],.v (.int .i64) (bxor x y))
 | .eql=>some ([],.v .bool (decide (x=y)))
 | .neq=>some ([],.v .bool (!decide (x=y)))
 | .lss=>some ([],.v .bool (decide (x<y)))
 | .leq=>some ([],.v .bool (decide (x<=y)))
 | .gtr=>some ([],.v .bool (decide (y<x)))
 | .geq=>some ([],.v .bool (decide (y<=x)))
 |_=>none
def Kd7(op:BinOp)(x y:UInt8):Res:=
 match op with
 | .add=>some ([],.v (.int .u8) (x+y))
 | .sub=>some ([],.v (.int .u8) (x - y))
 | .and=>some ([],.v (.int .u8) (x&&& y))
 | .or=>some ([],.v (.int .u8) (x|||y))
 | .xor=>some ([],.v (.int .u8) (x^^^y))
 | .eql=>some ([],.v .bool (decide (x=y)))
 | .neq=>some ([],.v .bool (!decide (x=y)))
 | .lss=>some ([],.v .bool (decide (x<y)))
 | .leq=>some ([],.v .bool (decide (x<=y)))
 | .gtr=>some ([],.v .bool (decide (y<x)))
 | .geq=>some ([],.v .bool (decide (y<=x)))
 |_=>none
def K31(op:BinOp)(x y:UInt32):Res:=
 match op with
 | .add=>some ([],.v (.int .u32) (x+y))
 | .sub=>some ([],.v (.int .u32) (x - y))
 | .and=>some ([],.v (.int .u32) (x&&& y))
 | .or=>some ([],.v (.int .u32) (x|||y))
 | .xor=>some ([],.v (.int .u32) (x^^^y))
 | .eql=>some ([],.v .bool (decide (x=y)))
 | .neq=>some ([],.v .bool (!decide (x=y)))
 |_=>none
def K33(op:BinOp)(x y:UInt64):Res:=
 match op with
 | .add=>some ([],.v (.int .u64) (x+y))
 | .sub=>some ([],.v (.int .u64) (x - y))
 | .mul=>some ([],.v (.int .u64) (x*y))
 | .and=>some ([],.v (.int .u64) (x&&& y))
 | .or=>some ([],.v (.int .u64) (x|||y))
 | .xor=>some ([],.v (.int .u64) (x^^^y))
 | .eql=>some ([],.v .bool (decide (x=y)))
 | .neq=>some ([],.v .bool (!decide (x=y)))
 | .geq=>some ([],.v .bool (decide (y<=x)))
 |_=>none
def Kbj(op:BinOp):(k k':IntKind)->IK k->IK k'->Res
 | .i64,.i64,x,y=>K2y op x y
 | .u8,.u8,x,y=>Kd7 op x y
 | .u32,.u32,x,y=>K31 op x y
 | .u64,.u64,x,y=>K33 op x y
 |_,_,_,_=>none
def Kfs(op:BinOp)(n:Nat):(k:IntKind)->IK k->Option J8e
 | .i64,x=>match op with| .shl=>some (.v (.int .i64) (Jx5 x n))| .shr=>some (.v (.int .i64) (ishr x n))|_=>none
 | .u8,x=>match op with| .shl=>some (.v (.int .u8) (UInt8.ofNat (UInt8.toNat x<<<n)))| .shr=>some (.v (.int .u8) (UInt8.ofNat (UInt8.toNat x>>>n)))|_=>none
 | .u32,x=>match op with| .shl=>some (.v (.int .u32) (UInt32.ofNat (UInt32.toNat x<<<n)))| .shr=>some (.v (.int .u32) (UInt32.ofNat (UInt32.toNat x>>>n)))|_=>none
 | .u64,x=>match op with| .shl=>some (.v (.int .u64) (UInt64.ofNat (UInt64.toNat x<<<n)))| .shr=>some (.v (.int .u64) (UInt64.ofNat (UInt64.toNat x>>>n)))|_=>none
 |_,_=>none
def K4o:BinOp->Bool
 | .shl=>true
 | .shr=>true
 |_=>false
def J91:List UInt8->List UInt8->Bool
 |_,[]=>false
 |[],_::_=>true
 |a::x,b::y=>a<b||(a==b&&J91 x y)
theorem K03:∀(x y:List UInt8),Op.bytesLess x y=J91 x y
 |[],[]=>rfl
 |_::_,[]=>rfl
 |[],_::_=>rfl
 |a::x,b::y=>by rw[Op.bytesLess,J91,K03 x y]
def K30(op:BinOp)(x y:List UInt8):Res:=
 match op with
 | .add=>some ([((x.length+y.length:Nat):Int)<=9223372036854775807],.v .str (x++y))
 | .eql=>some ([],.v .bool (decide (x=y)))
 | .neq=>some ([],.v .bool (!decide (x=y)))
 | .lss=>some ([],.v .bool (J91 x y))
 | .geq=>some ([],.v .bool (!J91 x y))
 | .leq=>some ([],.v .bool (J91 x y||decide (x=y)))
 | .gtr=>some ([],.v .bool (!(J91 x y||decide (x=y))))
 |_=>none
def K2w(op:BinOp)(x y:Int):Res:=
 match op with
 | .eql=>some ([],.v .bool (decide (x=y)))
 | .neq=>some ([],.v .bool (!decide (x=y)))
 | .lss=>some ([],.v .bool (decide (x<y)))
 | .leq=>some ([],.v .bool (decide (x<=y)))
 | .gtr=>some ([],.v .bool (decide (y<x)))
 | .geq=>some ([],.v .bool (decide (y<=x)))
 | .add=>some ([(x+y).natAbs<9007199254740992],.v .flt (x+y))
 |_=>none
def bin(T:Tab)(ty:Nat)(op:BinOp)(s t:J8e):Res:=
 match s,t with
 | .v (.int k) x,.v (.int k') y=>
  if K4o op then match Kfs op (IK.toInt k' y).toNat k x with
   |some r=>some ([0<=IK.toInt k' y],r)
   |none=>none
  else Kbj op k k' x y
 | .v .bool x,.v .bool y=>match T.ty ty,op with
  |some .bool,.eql=>some ([],.v .bool (x==y))
  |some .bool,.neq=>some ([],.v .bool (!(x==y)))
  |_,_=>none
 | .v .str x,.v .str y=>K30 op x y
 | .v .flt x,.v .flt y=>K2w op x y
 | .v .cplx x,.v .cplx y=>match op with
  | .eql=>some ([],.v .bool (decide (x=y)))
  | .neq=>some ([],.v .bool (!decide (x=y)))
  |_=>none
 |_,_=>none
def K0i(P:Program)(op:BinOp)(a b:Value)(u:J8e):Prop:=∀(t:TypeId) (w:World),∃v,(binOp op t a b).run P w= .ok v w/\∀(G:List GE) (ok:Nat->Prop),J9e G w ok u v
theorem K2z (h:K2y op x y=some (ps,u)) (hp:Jb2 ps):K0i P op (.int .i64 x) (.int .i64 y) u:=by
 intro t w;unfold K2y at h
 split at h<;>first
   |(cases h;done)
   | (injection h with h;injection h with h1 h2;subst h1;subst h2
      first
        |exact⟨_,rfl,λ_ _=>Jaf .i64 _⟩
        |(refine⟨_,rfl,λ_ _=> ?_⟩;exact Jcg _)
        | (refine⟨_, ?_,λ_ _=>Jaf .i64 _⟩
           simp[binOp,Op.intDiv,hp.1,w64])
        | (refine⟨_,rfl,λ_ _=> ?_⟩
           exact Jcg _))
theorem Jo6(x:UInt8):BitVec.ofInt 8 (x.toNat:Int)=x.toBitVec:=by simp_all
theorem K7k(x:UInt8):IntKind.u8.wrap (x.toNat:Int)=(x.toNat:Int):=by have:=x.toNat_lt;rw[IntKind.wrap_u8'];omega
theorem K8a(h:Kd7 op x y=some (ps,u))(hp:Jb2 ps):K0i P op (.int .u8 x.toNat) (.int .u8 y.toNat) u:=by
 intro t w;have hy:=y.toNat_lt
 have ret:∀(n:Int) (z:UInt8),n=(z.toNat:Int)->∃v,(Result.ok (Value.int .u8 n) w:Result Value)= .ok v w/\∀(G:List GE) (ok:Nat->Prop),J9e G w ok (.v (.int .u8) z) v:=
  λn z e=>⟨_,rfl,λ_ _=>by rw[e];exact Jaf .u8 z⟩
 have retb:∀(b c:Bool),b=c->∃v,(Result.ok (Value.bool b) w:Result Value)= .ok v w/\∀(G:List GE) (ok:Nat->Prop),J9e G w ok (.v .bool c) v:=
  λb c e=>⟨_,rfl,λ_ _=>by rw[e];exact Jcg c⟩
 unfold Kd7 at h
 split at h<;>first
  |(cases h;done)
  |(injection h with h;injection h with h1 h2;subst h1;subst h2)
 ·exact ret (IntKind.u8.wrap _) _ (by rw[IntKind.wrap_u8',UInt8.toNat_add];omega)
 ·exact ret (IntKind.u8.wrap _) _ (by rw[IntKind.wrap_u8',UInt8.toNat_sub];omega)
 ·exact ret (IntKind.u8.wrap _) _ (by rw[<-K7k (x&&& y)];congr 2;rw[show IntKind.u8.bits=8 from rfl,Jo6,Jo6];rfl)
 ·exact ret (IntKind.u8.wrap _) _ (by rw[<-K7k (x|||y)];congr 2;rw[show IntKind.u8.bits=8 from rfl,Jo6,Jo6];rfl)
 ·exact ret (IntKind.u8.wrap _) _ (by rw[<-K7k (x^^^y)];congr 2;rw[show IntKind.u8.bits=8 from rfl,Jo6,Jo6];rfl)
 ·exact retb _ _ (by rw[Bool.eq_iff_iff];simp[<-UInt8.toNat_inj];omega)
 ·exact retb _ _ (by rw[Bool.eq_iff_iff];simp[<-UInt8.toNat_inj];omega)
 ·exact retb _ _ (by rw[Bool.eq_iff_iff];simp[UInt8.lt_iff_toNat_lt])
 ·exact retb _ _ (by rw[Bool.eq_iff_iff];simp[UInt8.le_iff_toNat_le])
 ·exact retb _ _ (by rw[Bool.eq_iff_iff];simp[UInt8.lt_iff_toNat_lt])
 exact retb _ _ (by rw[Bool.eq_iff_iff];simp[UInt8.le_iff_toNat_le])
theorem ofInt32(x:UInt32):BitVec.ofInt 32 (x.toNat:Int)=x.toBitVec:=by simp_all
theorem wrap32(x:UInt32):IntKind.u32.wrap (x.toNat:Int)=(x.toNat:Int):=by have:=x.toNat_lt;rw[IntKind.wrap_u32'];omega
theorem K32(h:K31 op x y=some (ps,u))(hp:Jb2 ps):K0i P op (.int .u32 x.toNat) (.int .u32 y.toNat) u:=by
 intro t w;have hy:=y.toNat_lt
 have ret:∀(n:Int) (z:UInt32),n=(z.toNat:Int)->∃v,(Result.ok (Value.int .u32 n) w:Result Value)= .ok v w/\∀(G:List GE) (ok:Nat->Prop),J9e G w ok (.v (.int .u32) z) v:=
  λn z e=>⟨_,rfl,λ_ _=>by rw[e];exact Jaf .u32 z⟩
 have retb:∀(b c:Bool),b=c->∃v,(Result.ok (Value.bool b) w:Result Value)= .ok v w/\∀(G:List GE) (ok:Nat->Prop),J9e G w ok (.v .bool c) v:=
  λb c e=>⟨_,rfl,λ_ _=>by rw[e];exact Jcg c⟩
 unfold K31 at h
 split at h<;>first
  |(cases h;done)
  |(injection h with h;injection h with h1 h2;subst h1;subst h2)
 ·exact ret (IntKind.u32.wrap _) _ (by rw[IntKind.wrap_u32',UInt32.toNat_add];omega)
 ·exact ret (IntKind.u32.wrap _) _ (by rw[IntKind.wrap_u32',UInt32.toNat_sub];omega)
 ·exact ret (IntKind.u32.wrap _) _ (by rw[<-wrap32 (x&&& y)];congr 2;rw[show IntKind.u32.bits=32 from rfl,ofInt32,ofInt32];rfl)
 ·exact ret (IntKind.u32.wrap _) _ (by rw[<-wrap32 (x|||y)];congr 2;rw[show IntKind.u32.bits=32 from rfl,ofInt32,ofInt32];rfl)
 ·exact ret (IntKind.u32.wrap _) _ (by rw[<-wrap32 (x^^^y)];congr 2;rw[show IntKind.u32.bits=32 from rfl,ofInt32,ofInt32];rfl)
 ·exact retb _ _ (by rw[Bool.eq_iff_iff];simp[<-UInt32.toNat_inj];omega)
 exact retb _ _ (by rw[Bool.eq_iff_iff];simp[<-UInt32.toNat_inj];omega)
theorem Jiz(n:Int):_root_.Go.IntKind.u64.wrap n=n%18446744073709551616:=by simp[_root_.Go.IntKind.wrap,_root_.Go.IntKind.bits,_root_.Go.IntKind.signed]
theorem Jir(x:UInt64):BitVec.ofInt 64 (x.toNat:Int)=x.toBitVec:=by simp_all
theorem wrap64(x:UInt64):IntKind.u64.wrap (x.toNat:Int)=(x.toNat:Int):=by have:=x.toNat_lt;rw[Jiz];omega
theorem K34(h:K33 op x y=some (ps,u))(hp:Jb2 ps):K0i P op (.int .u64 x.toNat) (.int .u64 y.toNat) u:=by
 intro t w;have hy:=y.toNat_lt
 have ret:∀(n:Int) (z:UInt64),n=(z.toNat:Int)->∃v,(Result.ok (Value.int .u64 n) w:Result Value)= .ok v w/\∀(G:List GE) (ok:Nat->Prop),J9e G w ok (.v (.int .u64) z) v:=
  λn z e=>⟨_,rfl,λ_ _=>by rw[e];exact Jaf .u64 z⟩
 have retb:∀(b c:Bool),b=c->∃v,(Result.ok (Value.bool b) w:Result Value)= .ok v w/\∀(G:List GE) (ok:Nat->Prop),J9e G w ok (.v .bool c) v:=
  λb c e=>⟨_,rfl,λ_ _=>by rw[e];exact Jcg c⟩
 unfold K33 at h
 split at h<;>first
  |(cases h;done)
  |(injection h with h;injection h with h1 h2;subst h1;subst h2)
 ·exact ret (IntKind.u64.wrap _) _ (by rw[Jiz,UInt64.toNat_add];omega)
 ·exact ret (IntKind.u64.wrap _) _ (by rw[Jiz,UInt64.toNat_sub];omega)
 ·exact ret (IntKind.u64.wrap _) _ (by rw[Jiz,UInt64.toNat_mul,Int.natCast_emod,Int.natCast_mul];rfl)
 ·exact ret (IntKind.u64.wrap _) _ (by rw[<-wrap64 (x&&& y)];congr 2;rw[show IntKind.u64.bits=64 from rfl,Jir,Jir];rfl)
 ·exact ret (IntKind.u64.wrap _) _ (by rw[<-wrap64 (x|||y)];congr 2;rw[show IntKind.u64.bits=64 from rfl,Jir,Jir];rfl)
 ·exact ret (IntKind.u64.wrap _) _ (by rw[<-wrap64 (x^^^y)];congr 2;rw[show IntKind.u64.bits=64 from rfl,Jir,Jir];rfl)
 ·exact retb _ _ (by rw[Bool.eq_iff_iff];simp[<-UInt64.toNat_inj];omega)
 ·exact retb _ _ (by rw[Bool.eq_iff_iff];simp[<-UInt64.toNat_inj];omega)
 exact retb _ _ (by rw[Bool.eq_iff_iff];simp[UInt64.le_iff_toNat_le])
theorem Job x m b:x*2^min m b%2^b=x*2^m%2^b:=by
 rcases Nat.le_total m b with h|h;·rw[Nat.min_eq_left h]
 rw[Nat.min_eq_right h,Nat.mul_mod_left];obtain⟨d,rfl⟩:=Nat.exists_eq_add_of_le h;rw[Nat.pow_add,<-Nat.mul_assoc,Nat.mul_right_comm,Nat.mul_mod_left]
theorem K6q x m b (h:x<2^b):x / 2^min m b=x / 2^m:=by
 rcases Nat.le_total m b with h1|h1;·rw[Nat.min_eq_left h1]
 rw[Nat.min_eq_right h1,Nat.div_eq_of_lt h,Nat.div_eq_of_lt (Nat.lt_of_lt_of_le h (Nat.pow_le_pow_right (by decide) h1))]
theorem Jrp(x m b:Nat)(h:x<2^b):(x:Int).fdiv (2^min m b)=((x>>>m:Nat):Int):=by rw[Nat.shiftRight_eq_div_pow,<-K6q x m b h,Int.fdiv_eq_ediv_of_nonneg _ (by exact Int.le_of_lt (Int.pow_pos (by decide)))];rfl
theorem Jh2(x m b:Nat):((x:Int)*2^min m b)=((x*2^min m b:Nat):Int):=by rfl
theorem Kax(h:Kfs op n k x=some r) yk (y:Int) (hy:0<=y) (hn:n=y.toNat) w:∃v,(Op.shift op k (IK.toInt k x) yk y).run P w= .ok v w/\∀(G:List GE) (ok:Nat->Prop),J9e G w ok r v:=by
 subst hn;have hy':¬y<0:=by omega
 have e1:∀(k:IntKind) (x:Int),(Op.shift .shl k x yk y).run P w= .ok (.int k (k.wrap (x*2^min y.toNat k.bits))) w:=by intro k x;simp[Op.shift,hy']
 have e2:∀(k:IntKind) (x:Int),(Op.shift .shr k x yk y).run P w= .ok (.int k (x.fdiv (2^min y.toNat k.bits))) w:=by intro k x;simp[Op.shift,hy']
 unfold Kfs at h;split at h
 ·split at h<;>first|(cases h;done)|(injection h with h;subst h)
  ·exact⟨_,e1 _ _,λ_ _=>Jaf .i64 _⟩
  exact⟨_,e2 _ _,λ_ _=>Jaf .i64 _⟩
 ·rename_i x;have hx:=UInt8.toNat_lt x;split at h<;>first|(cases h;done)|(injection h with h;subst h)
  ·refine⟨_,e1 _ _,λ_ _=> ?_⟩;have:IntKind.u8.wrap ((UInt8.toNat x:Int)*2^min y.toNat 8)=((UInt8.ofNat (UInt8.toNat x<<<y.toNat)).toNat:Int):=(by rw[IntKind.wrap_u8',Jh2,UInt8.toNat_ofNat',Nat.shiftLeft_eq,<-Job _ _ 8,Int.natCast_emod];rfl);show J9e _ _ _ _ (.int .u8 (IntKind.u8.wrap ((UInt8.toNat x:Int)*2^min y.toNat 8)));rw[this];exact Jaf .u8 _
  refine⟨_,e2 _ _,λ_ _=> ?_⟩;have:((UInt8.toNat x:Nat):Int).fdiv (2^min y.toNat 8)=((UInt8.ofNat (UInt8.toNat x>>>y.toNat)).toNat:Int):=(by rw[Jrp _ _ _ hx,UInt8.toNat_ofNat',Nat.mod_eq_of_lt (Nat.lt_of_le_of_lt (Nat.shiftRight_le _ _) hx)]);show J9e _ _ _ _ (.int .u8 (((UInt8.toNat x:Nat):Int).fdiv (2^min y.toNat 8)));rw[this];exact Jaf .u8 _
 ·rename_i x;have hx:=UInt32.toNat_lt x;split at h<;>first|(cases h;done)|(injection h with h;subst h)
  ·refine⟨_,e1 _ _,λ_ _=> ?_⟩;have:IntKind.u32.wrap ((UInt32.toNat x:Int)*2^min y.toNat 32)=((UInt32.ofNat (UInt32.toNat x<<<y.toNat)).toNat:Int):=(by rw[IntKind.wrap_u32',Jh2,UInt32.toNat_ofNat',Nat.shiftLeft_eq,<-Job _ _ 32,Int.natCast_emod];rfl);show J9e _ _ _ _ (.int .u32 (IntKind.u32.wrap ((UInt32.toNat x:Int)*2^min y.toNat 32)));rw[this];exact Jaf .u32 _
  refine⟨_,e2 _ _,λ_ _=> ?_⟩;have:((UInt32.toNat x:Nat):Int).fdiv (2^min y.toNat 32)=((UInt32.ofNat (UInt32.toNat x>>>y.toNat)).toNat:Int):=(by rw[Jrp _ _ _ hx,UInt32.toNat_ofNat',Nat.mod_eq_of_lt (Nat.lt_of_le_of_lt (Nat.shiftRight_le _ _) hx)]);show J9e _ _ _ _ (.int .u32 (((UInt32.toNat x:Nat):Int).fdiv (2^min y.toNat 32)));rw[this];exact Jaf .u32 _
 ·rename_i x;have hx:=UInt64.toNat_lt x;split at h<;>first|(cases h;done)|(injection h with h;subst h)
  ·refine⟨_,e1 _ _,λ_ _=> ?_⟩;have:IntKind.u64.wrap ((UInt64.toNat x:Int)*2^min y.toNat 64)=((UInt64.ofNat (UInt64.toNat x<<<y.toNat)).toNat:Int):=(by rw[Jiz,Jh2,UInt64.toNat_ofNat',Nat.shiftLeft_eq,<-Job _ _ 64,Int.natCast_emod];rfl);show J9e _ _ _ _ (.int .u64 (IntKind.u64.wrap ((UInt64.toNat x:Int)*2^min y.toNat 64)));rw[this];exact Jaf .u64 _
  refine⟨_,e2 _ _,λ_ _=> ?_⟩;have:((UInt64.toNat x:Nat):Int).fdiv (2^min y.toNat 64)=((UInt64.ofNat (UInt64.toNat x>>>y.toNat)).toNat:Int):=(by rw[Jrp _ _ _ hx,UInt64.toNat_ofNat',Nat.mod_eq_of_lt (Nat.lt_of_le_of_lt (Nat.shiftRight_le _ _) hx)]);show J9e _ _ _ _ (.int .u64 (((UInt64.toNat x:Nat):Int).fdiv (2^min y.toNat 64)));rw[this];exact Jaf .u64 _
 cases h
theorem Jsz(x:List UInt8):(⟨x.toArray⟩:ByteArray).toList=x:=by rw[ByteArray.toList_eq]
theorem Jmu(h:K30 op x y=some (ps,u))(hp:Jb2 ps):K0i P op (.string ⟨x.toArray⟩) (.string ⟨y.toArray⟩) u:=by
 intro t w;have e:∀op,(binOp op t (.string ⟨x.toArray⟩) (.string ⟨y.toArray⟩)).run P w=(Op.stringOp op ⟨x.toArray⟩ ⟨y.toArray⟩).run P w:=λop=>by cases op<;>rfl
 have retb:∀(b c:Bool),b=c->∃v,(Result.ok (Value.bool b) w:Result Value)= .ok v w/\∀(G:List GE) (ok:Nat->Prop),J9e G w ok (.v .bool c) v:=
  λb c e=>⟨_,rfl,λ_ _=>by rw[e];exact Jcg c⟩
 have heq:(x==y)=decide (x=y):=by rw[Bool.eq_iff_iff];simp
 unfold K30 at h
 split at h<;>first
  |(cases h;done)
  |(injection h with h;injection h with h1 h2;subst h1;subst h2;rw[e];simp only[Op.stringOp,Jsz,K03,heq,Sem.run_pure];exact retb _ _ rfl)
  |skip
 cases h;rw[e];have hs:¬(((⟨x.toArray⟩:ByteArray).size+(⟨y.toArray⟩:ByteArray).size:Nat):Int)>IntKind.i64.max:=by have h1:(⟨x.toArray⟩:ByteArray).size=x.length:=(by simp[ByteArray.size]);have h2:(⟨y.toArray⟩:ByteArray).size=y.length:=(by simp[ByteArray.size]);have h3:IntKind.i64.max=9223372036854775807:=(by decide);rw[h1,h2,h3];have:=hp.1;omega
 simp only[Op.stringOp,hs,if_false,Sem.run_pure];refine⟨_,rfl,λ_ _=> ?_⟩;have:(⟨x.toArray⟩:ByteArray)++⟨y.toArray⟩=⟨(x++y).toArray⟩:=by apply ByteArray.ext;simp
 rw[this];exact K0k _
theorem K2x(h:K2w op x y=some (ps,u))(hp:Jb2 ps)(hx:x.natAbs<9007199254740992)(hy:y.natAbs<9007199254740992):K0i P op (.float .f64 (FloatKind.f64.nearest x)) (.float .f64 (FloatKind.f64.nearest y)) u:=by
 intro t w;have e:∀op,op≠.add->op≠.sub->op≠.mul->op≠.quo->(binOp op t (.float .f64 (FloatKind.f64.nearest x)) (.float .f64 (FloatKind.f64.nearest y))).run P w=(Op.floatCmp op .f64 (FloatKind.f64.nearest x) (FloatKind.f64.nearest y)).run P w:=by intro op h1 h2 h3 h4;cases op<;>simp_all [binOp]
 have retb:∀(b c:Bool),b=c->∃v,(Result.ok (Value.bool b) w:Result Value)= .ok v w/\∀(G:List GE) (ok:Nat->Prop),J9e G w ok (.v .bool c) v:=
   λb c e=>⟨_,rfl,λ_ _=>by rw[e];exact Jcg c⟩
 have o:=Jfw x y hx hy;have cc:compare x y=if x<y then .lt else if x=y then .eq else .gt:=rfl
 unfold K2w at h;split at h
 case h_7=>
   cases h
   have ea:=Jw9 x y hx hy hp.1
   refine⟨.float .f64 (FloatKind.f64.nearest (x+y)), ?_,λ_ _=>K7x hp.1⟩
   show(Op.floatArith .add .f64 (FloatKind.f64.nearest x) (FloatKind.f64.nearest y)).run P w=_
   unfold Op.floatArith
   simp_all
 all_goals first
   |(cases h;done)
   | (injection h with h;injection h with h1 h2;subst h1;subst h2
      rw[e _ (by simp) (by simp) (by simp) (by simp)]
      simp only[Op.floatCmp,o,cc,Sem.run_pure]
      apply retb
      rcases Int.lt_trichotomy x y with h|h|h
      · grind
      · subst h;simp
      · have h1:¬x=y:=by omega
        have h2:¬x<y:=by omega
        have h3:y<=x:=by omega
        have h4:¬x<=y:=by omega
        simp[h,h1,h2,h3,h4])
theorem Jpk(hu:(underlying t).run P w= .ok .bool w) x y:(Op.equal t (.bool x) (.bool y)).run P w= .ok (x==y) w:=by show(Op.equalIn (9999+1) t (.bool x) (.bool y)).run P w=_;rw[Op.equalIn];simp only[Sem.run_bind,hu,Result.andThen_ok,Sem.run_pure]
theorem bin_ok(hT:J9a P T)(h:bin T t op s1 s2=some (ps,u))(hp:Jb2 ps)(ha:J9e G w ok s1 a)(hb:J9e G w ok s2 b):(∃v,(binOp op t a b).run P w= .ok v w/\J9e G w ok u v)/\(∀x y,(eqGuard op t x y a b).run P w= .ok () w):=by
 unfold bin at h;split at h
 ·rename_i k x k' y;rw[Jgf ha,Jgf hb];refine⟨?_,λx y=>by cases op<;>rfl⟩;split at h
  ·rename_i hsh;split at h;·rename_i r hr;cases h;obtain⟨v,h1,h2⟩:=Kax (P:=P) hr k' (IK.toInt k' y) hp.1 rfl w;refine⟨v, ?_,h2 _ _⟩;cases op<;>simp[K4o]at hsh<;>exact h1
   cases h
  unfold Kbj at h;split at h;·obtain⟨v,h1,h2⟩:=K2z (P:=P) h hp t w;exact⟨v,h1,h2 _ _⟩
  ·obtain⟨v,h1,h2⟩:=K8a (P:=P) h hp t w;exact⟨v,h1,h2 _ _⟩
  ·obtain⟨v,h1,h2⟩:=K32 (P:=P) h hp t w;exact⟨v,h1,h2 _ _⟩
  ·obtain⟨v,h1,h2⟩:=K34 (P:=P) h hp t w;exact⟨v,h1,h2 _ _⟩
  cases h
 ·rename_i x y;rw[Jmp ha,Jmp hb];refine⟨?_,λx y=>by cases op<;>rfl⟩;have hu:T.ty t=some .bool->(underlying t).run P w= .ok .bool w:=(by intro ht;obtain⟨by_,hg⟩:=Tab.ty_get ht;obtain⟨d,h1,h2⟩:=(hT _ _ _ hg).run_under w;simp only[Ja9]at h2;rw[h1,h2]);split at h<;>first|(cases h;done)|(injection h with h;injection h with h1 h2;subst h1;subst h2)
  ·rename_i ht;exact⟨.bool (x==y),by simp[binOp,Jpk (hu ht)],Jcg _⟩
  rename_i ht;exact⟨.bool (!(x==y)),by simp[binOp,Jpk (hu ht)],Jcg _⟩
 ·rename_i x y;rw[Jlw ha,Jlw hb];obtain⟨v,h1,h2⟩:=Jmu (P:=P) h hp t w;exact⟨⟨v,h1,h2 _ _⟩,λx y=>by cases op<;>rfl⟩
 ·rename_i x y;obtain⟨hx,rfl⟩:=K2q ha;obtain⟨hy,rfl⟩:=K2q hb;obtain⟨v,h1,h2⟩:=K2x (P:=P) h hp hx hy t w;exact⟨⟨v,h1,h2 _ _⟩,λx y=>by cases op<;>rfl⟩
 ·rename_i x y;obtain⟨hx,rfl⟩:=Jyi ha;obtain⟨hy,rfl⟩:=Jyi hb;refine⟨?_,λx y=>by cases op<;>rfl⟩;have o1:=Jfw x.1 y.1 hx.1 hy.1;have o2:=Jfw x.2 y.2 hx.2 hy.2;have c1:∀(a b:Int),((some (compare a b):Option Ordering)==some .eq)=decide (a=b):=(by grind);have c2:(decide (x.1=y.1)&&decide (x.2=y.2))=decide (x=y):=(by rw[Bool.eq_iff_iff];simp[Prod.ext_iff]);split at h<;>first|(cases h;done)|(injection h with h;injection h with h1 h2;subst h1;subst h2)
  ·refine⟨.bool (decide (x=y)), ?_,Jcg _⟩;rw[<-c2];simp[binOp,Op.complexOp,Op.Complex.cmp,Op.floatCmp,o1,o2,c1,asBool]
  refine⟨.bool (!decide (x=y)), ?_,Jcg _⟩;rw[<-c2];simp[binOp,Op.complexOp,Op.Complex.cmp,Op.floatCmp,o1,o2,c1,asBool]
 cases h
end Go.Ax

namespace Go.Ax
variable {P : Program} {T : Tab}
def Js1{α:Type}(f:α->α->Bool):List α->List α->Bool
 |[],[]=>true
 |x::xs,y::ys=>f x y&&Js1 f xs ys
 |_,_=>false
def Ty.beq:(t:Ty)->t.den->t.den->Bool
 | .int k,x,y=>decide (IK.toInt k x=IK.toInt k y)
 | .bool,x,y=>decide ((x:Bool)=y)
 | .str,x,y=>decide ((x:List UInt8)=y)
 | .flt,x,y=>decide ((x:Int)=y)
 | .cplx,x,y=>decide ((x:Int×Int)=y)
 | .arr _ e,x,y=>Js1 e.beq x y
 | .unit,_,_=>true
 | .fld a r,x,y=>a.beq x.1 y.1&&r.beq x.2 y.2
 |_,_,_=>false
def Ty.comp:Ty->Bool
 | .int _=>true
 | .bool=>true
 | .str=>true
 | .arr _ e=>e.comp
 | .unit=>true
 | .fld a r=>a.comp&&r.comp
 |_=>false
theorem IK.toInt_inj(h:IK.toInt k x=IK.toInt k y):x=y:=by
 cases k<;>first
  |exact h
  |exact UInt8.toNat_inj.1 (Int.ofNat.inj h)
  |exact UInt32.toNat_inj.1 (Int.ofNat.inj h)
  |exact UInt64.toNat_inj.1 (Int.ofNat.inj h)
theorem Jzl{f:α->α->Bool}(h:∀x y,f x y=true↔x=y):∀(xs ys:List α),Js1 f xs ys=true↔xs=ys
 |[],[]=>by simp[Js1]
 |x::xs,y::ys=>by simp[Js1,h,Jzl h xs ys]
 |[],_::_=>by simp[Js1]
 |_::_,[]=>by simp[Js1]
theorem Ty.beq_iff:∀(t:Ty),t.comp=true->∀(x y:t.den),t.beq x y=true↔x=y
 | .int k,_,x,y=>by simp only[Ty.beq,decide_eq_true_eq];exact⟨IK.toInt_inj,λh=>by rw[h]⟩
 | .bool,_,x,y=>by simp[Ty.beq]
 | .str,_,x,y=>by simp[Ty.beq]
 | .arr _ e,q,x,y=>Jzl (Ty.beq_iff e q) x y
 | .unit,_,x,y=>by simp[Ty.beq]
 | .fld a r,q,x,y=>by simp only[Ty.comp,Bool.and_eq_true]at q;simp only[Ty.beq,Bool.and_eq_true,Ty.beq_iff a q.1,Ty.beq_iff r q.2,Prod.ext_iff]
 | .flt,q,_,_=>by cases q
 | .cplx,q,_,_=>by cases q
 | .ptr,q,_,_=>by cases q
 | .mp,q,_,_=>by cases q
 | .fn,q,_,_=>by cases q
 | .slice _,q,_,_=>by cases q
theorem Ty.beq_eq(t:Ty)(q:t.comp=true)(x y:t.den)[Decidable (x=y)]:t.beq x y=decide (x=y):=by rw[Bool.eq_iff_iff,Ty.beq_iff t q,decide_eq_true_eq]
theorem TyI.run_part(h:TyI P T t ty b)(hl:o+ty.size<=cs.size) w:(part t cs o).run P w= .ok (pack ty ((cs.toList.drop o).take ty.size)) w:=by unfold part;simp only[Sem.run_bind,h.run_isAgg w,Result.andThen_ok,pack];cases ha:ty.isAgg with|true=>simp only[if_true,Sem.run_bind,h.run_size w,Result.andThen_ok,Sem.run_pure];congr 2;grind|false=>have h1:ty.size=1:=(by cases ty<;>simp_all [Ty.isAgg,Ty.size]);have h2:o<cs.size:=(by omega);simp only[Bool.false_eq_true,if_false,Array.getElem?_eq_getElem h2,Sem.run_pure];rw[h1,List.drop_eq_getElem_cons (by simpa using h2)];simp
def J97(P:Program)(f:Nat->Ty->Bool):List Field->Ty->Bool
 |[],.unit=>true
 |x::fs,.fld a r=>decide (x.name≠ "_")&&f x.type a&&J97 P f fs r
 |_,_=>false
def eqB(P:Program)(T:Tab):Nat->Nat->Ty->Bool
 |0,_,_=>false
 |f+1,t,ty=>decide (T.ty t=some ty)&&ty.comp&&match ty with| .arr _ _=>(match P.underlying t,ty with|some (.array _ te),.arr _ e=>eqB P T f te e|_,_=>false)| .unit=> !P.stoodInHeld t| .fld a r=> !P.stoodInHeld t&&(match P.underlying t with|some (.struct fs)=>J97 P (eqB P T f) fs.toList (.fld a r)|_=>false)|_=>true
theorem Ju9{B:Nat->(Option Bool×Unit)->Sem (ForInStep (Option Bool×Unit))}{K:(Option Bool×Unit)->Sem Bool} f:
  ∀(l:List Nat),(∀i∈l,∀s,(B i s).run P w= .ok (if f i then .yield (none,())else .done (some false,())) w)->
   (K (some false,())).run P w= .ok false w->(K (none,())).run P w= .ok true w->
   ((forIn l ((none,()):Option Bool×Unit) B).run P w).andThen (λa w'=>(K a).run P w')= .ok (l.all f) w
 |[],_,_,h2=>by simpa using h2
 |i::l,hB,h1,h2=>by rw[List.forIn_cons];simp only[Sem.run_bind,hB i (List.mem_cons_self ..),Result.andThen_ok,List.all_cons];cases f i with|false=>simpa using h1|true=>have:=Ju9 (B:=B) (K:=K) f l (λj hj=>hB j (List.mem_cons_of_mem _ hj)) h1 h2;simpa using this
theorem run_equalIn_array{n s:Nat}{w:World} xs ys (hu:(underlying t).run P w= .ok (.array n te) w) (hs:(sizeOf te).run P w= .ok s w) f (hf:∀i,i<n->∃a b,(part te xs (i*s)).run P w= .ok a w/\(part te ys (i*s)).run P w= .ok b w/\(Op.equalIn d te a b).run P w= .ok (f i) w):(Op.equalIn (d+1) t (.agg xs) (.agg ys)).run P w= .ok ((List.range n).all f) w:=by
 simp only[Op.equalIn,Sem.run_bind,hu,Result.andThen_ok,hs];rw[Std.Legacy.Range.forIn_eq_forIn_range'];have e:List.range' [:n].start [:n].size [:n].step=List.range' 0 n 1:=by simp[Std.Legacy.Range.size]
 rw[e];rw[List.range_eq_range'];refine Ju9 f (List.range' 0 n 1) (λi hi s'=> ?_) ?_ ?_;·obtain⟨a,b,h1,h2,h3⟩:=hf i (by have:=List.mem_range'.1 hi;omega);simp only[Sem.run_bind,h1,h2,h3,Result.andThen_ok];cases f i<;>simp
 ·rfl
 rfl
def EqI(P:Program)(t:Nat)(ty:Ty)(d:Nat):Prop:=∀(w:World) (ok:Nat->Prop) (x y:ty.den) (c1 c2:List Value),J92 w ok ty c1 x->J92 w ok ty c2 y-> (Op.equalIn d t (pack ty c1) (pack ty c2)).run P w= .ok (ty.beq x y) w
theorem Jnq f d:∀(xs ys:List α),xs.length=ys.length->(List.range xs.length).all (λi=>f (xs.getD i d) (ys.getD i d))=Js1 f xs ys
 |[],[],_=>rfl
 |x::xs,y::ys,h=>by have:=Jnq f d xs ys (by simpa using h);rw[List.length_cons,List.range_succ_eq_map,List.all_cons,List.all_map];simp only[Js1,<-this];rfl
 |[],_::_,h=>by simp at h
 |_::_,[],h=>by simp at h
theorem Jtz(hT:J9a P T)(hf:∀t ty,f t ty=true->T.ty t=some ty/\EqI P t ty d) w ok (xs ys:Array Value):
  ∀(fs:List Field) (ty:Ty) (o:Nat) (x y:ty.den) (c1 c2:List Value),J97 P f fs ty=true->Jco T fs ty o->J92 w ok ty c1 x->J92 w ok ty c2 y->
   xs.toList.drop o=c1->ys.toList.drop o=c2->o<=xs.size->o<=ys.size->(Op.eqFields d xs ys fs).run P w= .ok (ty.beq x y) w
 |[],.unit,o,x,y,c1,c2,_,_,_,_,_,_,_,_=>rfl
 | f0::fs,.fld a r,o,x,y,c1,c2,hb,hF,h1,h2,e1,e2,l1,l2=>by
  simp only[J97,Bool.and_eq_true,decide_eq_true_eq]at hb;obtain⟨⟨hn,hfa⟩,hfr⟩:=hb;obtain⟨hta,ho,hF⟩:=hF;obtain⟨a1,a2,rfl,h3,h4⟩:=h1;obtain⟨b1,b2,rfl,h5,h6⟩:=h2;have la:=J92.len _ h3;have lb:=J92.len _ h5;obtain⟨by_,hg⟩:=Tab.ty_get hta;have hI:=hT _ _ _ hg;have s1:o+a.size<=xs.size:=(by have:(xs.toList.drop o).length=a1.length+a2.length:=(by rw[e1,List.length_append]);grind);have s2:o+a.size<=ys.size:=(by have:(ys.toList.drop o).length=b1.length+b2.length:=(by rw[e2,List.length_append]);grind);have p1:(part f0.type xs f0.offset).run P w= .ok (pack a a1) w:=(by rw[ho,hI.run_part s1,e1,<-la,List.take_left' rfl]);have p2:(part f0.type ys f0.offset).run P w= .ok (pack a b1) w:=(by rw[ho,hI.run_part s2,e2,<-lb,List.take_left' rfl]);have hq:=(hf _ _ hfa).2 w ok x.1 y.1 a1 b1 h3 h5
  have ih:=Jtz hT hf w ok xs ys fs r (o+a.size) x.2 y.2 a2 b2 hfr hF h4 h6 (by rw[<-List.drop_drop,e1,<-la,List.drop_left' rfl])
   (by rw[<-List.drop_drop,e2,<-lb,List.drop_left' rfl]) s1 s2
  simp only[Op.eqFields,hn,ne_eq,not_false_eq_true,if_true,Sem.run_bind,p1,p2,hq,Result.andThen_ok,Ty.beq];cases a.beq x.1 y.1 with|false=>simp|true=>simpa using ih
 |[],.fld _ _,_,_,_,_,_,hb,_,_,_,_,_,_,_=>by simp[J97]at hb
 |_::_,.unit,_,_,_,_,_,hb,_,_,_,_,_,_,_=>by simp[J97]at hb
 |[],.int _,_,_,_,_,_,hb,_,_,_,_,_,_,_=>by simp[J97]at hb
 |[],.bool,_,_,_,_,_,hb,_,_,_,_,_,_,_=>by simp[J97]at hb
 |[],.str,_,_,_,_,_,hb,_,_,_,_,_,_,_=>by simp[J97]at hb
 |[],.flt,_,_,_,_,_,hb,_,_,_,_,_,_,_=>by simp[J97]at hb
 |[],.cplx,_,_,_,_,_,hb,_,_,_,_,_,_,_=>by simp[J97]at hb
 |[],.ptr,_,_,_,_,_,hb,_,_,_,_,_,_,_=>by simp[J97]at hb
 |[],.mp,_,_,_,_,_,hb,_,_,_,_,_,_,_=>by simp[J97]at hb
 |[],.fn,_,_,_,_,_,hb,_,_,_,_,_,_,_=>by simp[J97]at hb
 |[],.arr _ _,_,_,_,_,_,hb,_,_,_,_,_,_,_=>by simp[J97]at hb
 |[],.slice _,_,_,_,_,_,hb,_,_,_,_,_,_,_=>by simp[J97]at hb
 |_::_,.int _,_,_,_,_,_,hb,_,_,_,_,_,_,_=>by simp[J97]at hb
 |_::_,.bool,_,_,_,_,_,hb,_,_,_,_,_,_,_=>by simp[J97]at hb
 |_::_,.str,_,_,_,_,_,hb,_,_,_,_,_,_,_=>by simp[J97]at hb
 |_::_,.flt,_,_,_,_,_,hb,_,_,_,_,_,_,_=>by simp[J97]at hb
 |_::_,.cplx,_,_,_,_,_,hb,_,_,_,_,_,_,_=>by simp[J97]at hb
 |_::_,.ptr,_,_,_,_,_,hb,_,_,_,_,_,_,_=>by simp[J97]at hb
 |_::_,.mp,_,_,_,_,_,hb,_,_,_,_,_,_,_=>by simp[J97]at hb
 |_::_,.fn,_,_,_,_,_,hb,_,_,_,_,_,_,_=>by simp[J97]at hb
 |_::_,.arr _ _,_,_,_,_,_,hb,_,_,_,_,_,_,_=>by simp[J97]at hb
 |_::_,.slice _,_,_,_,_,_,hb,_,_,_,_,_,_,_=>by simp[J97]at hb
theorem Kbq(hT:J9a P T):∀(f:Nat) (t:Nat) (ty:Ty) (d:Nat),f<=d->eqB P T f t ty=true->T.ty t=some ty/\EqI P t ty d:=by
 intro f;induction f with
 |zero=>intro t ty d _ h;simp[eqB]at h
 |succ f ih=>
  intro t ty d hd h;obtain⟨d,rfl⟩:∃d',d=d'+1:=⟨d - 1,by omega⟩;simp only[eqB,Bool.and_eq_true,decide_eq_true_eq]at h;obtain⟨⟨ht,hc⟩,h⟩:=h;refine⟨ht, ?_⟩;obtain⟨by_,hg⟩:=Tab.ty_get ht;have hI:=hT _ _ _ hg;intro w ok x y c1 c2 h1 h2;obtain⟨dd,hu,hD⟩:=hI.desc;cases ty with
  |int k=>simp only[Ja9]at hD;subst hD;simp only[J92]at h1 h2;subst h1;subst h2;exact run_equalIn_int w d t k k _ _ hu
  |bool=>simp only[Ja9]at hD;subst hD;simp only[J92]at h1 h2;subst h1;subst h2;exact run_equalIn_bool' w d t _ _ hu
  |str=>simp only[Ja9]at hD;subst hD;simp only[J92]at h1 h2;subst h1;subst h2;have:=run_equalIn_string w d t ⟨List.toArray x⟩ ⟨List.toArray y⟩ hu;rw[Jsz,Jsz]at this;refine this.trans ?_;have:(x==y)=Ty.str.beq x y:=(by rw[Bool.eq_iff_iff];simp[Ty.beq]);rw[this]
  |unit=>obtain⟨fs,rfl,hF⟩:=hD;simp only[J92]at h1 h2;subst h1;subst h2;have hfo:P.underlying t=some (.struct (P.fieldsOf t)):=(by simp[Program.fieldsOf,hu]);simp only[Bool.not_eq_true']at h;have:=run_equalIn_struct w d t #[] #[] hfo h;refine this.trans ?_;have:P.fieldsOf t=fs:=(by simp[Program.fieldsOf,hu]);rw[this];cases hfs:fs.toList with|nil=>rfl|cons _ _=>rw[hfs]at hF;exact hF.elim
  |fld a r=>obtain⟨fs,rfl,hF⟩:=hD;simp only[Bool.and_eq_true,Bool.not_eq_true',hu]at h;have hfo:P.underlying t=some (.struct (P.fieldsOf t)):=(by simp[Program.fieldsOf,hu]);have e:P.fieldsOf t=fs:=(by simp[Program.fieldsOf,hu]);have:=run_equalIn_struct w d t c1.toArray c2.toArray hfo h.1;rw[e]at this;refine this.trans ?_;exact Jtz hT (λt' ty' h'=>ih t' ty' d (by omega) h') w ok _ _ fs.toList (.fld a r) 0 x y c1 c2 h.2 hF h1 h2 rfl rfl (Nat.zero_le _) (Nat.zero_le _)
  |arr n e=>obtain⟨te,rfl,hte⟩:=hD;simp only[hu]at h;obtain⟨by2,hg2⟩:=Tab.ty_get hte;have hI2:=hT _ _ _ hg2;obtain⟨_,hE⟩:=ih te e d (by omega) h;obtain⟨l1,k1⟩:=h1;obtain⟨l2,k2⟩:=h2;have n1:=Cat.len (λcs x=>J92.len e) k1;have n2:=Cat.len (λcs x=>J92.len e) k2;have hu':(underlying t).run P w= .ok (.array n te) w:=(by simp[underlying,hu]);have hb:∀i,i<n->i*e.size+e.size<=n*e.size:=(by intro i hi;have:=Nat.mul_le_mul_right e.size (show i+1<=n from hi);grind);have:=run_equalIn_array (d:=d) c1.toArray c2.toArray hu' (hI2.run_size w) (λi=>e.beq (List.getD x i e.zero) (List.getD y i e.zero)) (by intro i hi;refine⟨_,_,hI2.run_part (by simp[n1,l1];exact hb i hi) w,hI2.run_part (by simp[n2,l2];exact hb i hi) w, ?_⟩;exact hE w ok _ _ _ _ (Cat.at (R:=J92 w ok e) (λcs x=>J92.len e) e.zero k1 (by rw[l1];exact hi)) (Cat.at (R:=J92 w ok e) (λcs x=>J92.len e) e.zero k2 (by rw[l2];exact hi)));refine this.trans ?_;have:=Jnq e.beq e.zero x y (by rw[l1,l2]);rw[l1]at this;rw[this];rfl
  |flt=>cases hc
  |cplx=>cases hc
  |ptr=>cases hc
  |mp=>cases hc
  |fn=>cases hc
  |slice _=>cases hc
end Go.Ax

namespace Go.Ax
variable {P : Program} {T : Tab}
def Ty.pure:Ty->Bool
 | .ptr=>false
 | .mp=>false
 | .fn=>false
 | .slice e=>e.pure
 | .arr _ e=>e.pure
 | .fld a r=>a.pure&&r.pure
 |_=>true
theorem Jea w ok:∀(t:Ty),t.pure=true->J92 w ok t (J9h t) t.zero
 | .int k,_=>by simp only[J92,J9h,Ty.zero,IK.toInt_zero]
 | .bool,_=>rfl
 | .str,_=>rfl
 | .flt,_=>Jbq w ok .flt rfl
 | .cplx,_=>Jbq w ok .cplx rfl
 | .ptr,q=>by cases q
 | .mp,q=>by cases q
 | .fn,q=>by cases q
 | .slice _,_=>⟨none,0,rfl,Nat.le_refl _,.inl rfl⟩
 | .unit,_=>rfl
 | .fld a r,q=>by simp only[Ty.pure,Bool.and_eq_true]at q;exact⟨_,_,rfl,Jea w ok a q.1,Jea w ok r q.2⟩
 | .arr n e,q=>⟨by simp[Ty.zero],Jb9 (Jea w ok e q) n⟩
def fits(h:List J8g):J8e->Ty->Bool
 | .v t _,ty=>decide (t=ty)
 | .nil,.slice _=>true
 | .nilp,.ptr=>true
 | .ptr _ _,.ptr=>true
 | .ref _ _,.ptr=>true
 | .fn _ _,.fn=>true
 | .mp _,.mp=>true
 | .anyb,.bool=>true
 | .own l p,.slice e=>match J99 (J8m h l) p with|some r=>decide (r.e=e)|none=>false
 | .node a r,.fld ta tr=>fits h a ta&&fits h r tr
 |_,_=>false
theorem K9y(hh:HRG c G h w)(hs:J90 G w ok (.own l p) t cs)(hr:J99 (J8m h l) p=some r):t= .slice r.e:=by
 obtain⟨ho,hd⟩:=Jjo hr;obtain⟨g,v,hg,rfl,hv⟩:=hs;have:=hh.objs l _ g ho hg;generalize J8m h l=o at*
 cases o with
 | row e xs lv=>
  cases p with
  |cons _ _=>simp[J99]at hr
  |nil=>
   simp only[J99,Option.some.injEq]at hr;subst hr;obtain⟨h1,h2,_⟩:=this;rcases hv with⟨_,_,rfl,_⟩|⟨hk,_⟩;·rw[h2]
   rw[h1]at hk;cases hk
 | box t s lv=>
  simp only[J99]at hr;split at hr
  ·rename_i n e xs hs;cases hr;obtain⟨h1,h2,b,c,U,h3,h4,h5⟩:=this;rcases hv with⟨_,hk,_⟩|⟨_,b',o',n',e',hb',hp,rfl,_⟩;·rw[h1]at hk;cases hk
   have h6:=J8e.get_ok h5 (by rw[<-h2];exact hp);rw[hs]at h6;obtain⟨he,_⟩:=h6;grind
  cases hr
 |map _ _ _ _=>simp[J99]at hr
 |dead=>simp[J99]at hr
theorem K97(hh:HRG c G h w):∀(s:J8e) (ty:Ty) {t2:Ty} {cs:List Value},fits h s ty=true->J90 G w ok s t2 cs->J90 G w ok s ty cs/\ty.isAgg=t2.isAgg/\s.solid=true:=by
 intro s ty;fun_induction fits h s ty with
 |case1 t x ty=>intro t2 cs hf hs;obtain⟨rfl,hs⟩:=hs;have:=of_decide_eq_true hf;subst this;exact⟨⟨rfl,hs⟩,rfl,rfl⟩
 |case2 e=>intro t2 cs hf hs;obtain⟨⟨e',rfl⟩,rfl⟩:=hs;exact⟨⟨⟨e,rfl⟩,rfl⟩,rfl,rfl⟩
 |case3=>intro t2 cs hf hs;obtain⟨rfl,rfl⟩:=hs;exact⟨⟨rfl,rfl⟩,rfl,rfl⟩
 |case4 l p=>intro t2 cs hf hs;have:=hs.1;subst this;exact⟨hs,rfl,rfl⟩
 |case5 t x=>intro t2 cs hf hs;have:=hs.1;subst this;exact⟨hs,rfl,rfl⟩
 |case6 f cap=>intro t2 cs hf hs;have:=hs.1;subst this;exact⟨hs,rfl,rfl⟩
 |case7 l=>intro t2 cs hf hs;have:=hs.1;subst this;exact⟨hs,rfl,rfl⟩
 |case8=>intro t2 cs hf hs;have:=hs.1;subst this;exact⟨hs,rfl,rfl⟩
 |case9 l p e r hr=>
  intro t2 cs hf hs
  have:=K9y hh hs hr
  have h2:=of_decide_eq_true hf
  subst this;subst h2;exact⟨hs,rfl,rfl⟩
 |case10=>intro t2 cs hf _;cases hf
 |case11 a r ta tr ih1 ih2=>
  intro t2 cs hf hs
  simp only[Bool.and_eq_true]at hf
  obtain⟨ta',tr',rfl,c1,c2,rfl,h1,h2⟩:=hs
  obtain⟨x1,_,x3⟩:=ih1 hf.1 h1
  obtain⟨y1,_,y3⟩:=ih2 hf.2 h2
  exact⟨⟨ta,tr,rfl,c1,c2,rfl,x1,y1⟩,rfl,by simp[J8e.solid,x3,y3]⟩
 |case12=>intro t2 cs hf _;cases hf
theorem Jrv(hh:HRG c G h w)(hf:fits h s ty=true)(hv:J9e G w ok s v):∃cs,J90 G w ok s ty cs/\v=pack ty cs/\s.solid=true:=by
 have:∃t2 cs,J90 G w ok s t2 cs/\v=pack t2 cs:=by
  cases s<;>first
   |exact hv
   |(cases ty<;>cases hf)
 obtain⟨t2,cs,h1,rfl⟩:=this;obtain⟨h2,h3,h4⟩:=K97 hh s ty hf h1;exact⟨cs,h2,(Js4 h3).symm,h4⟩
def J8g.lay:J8g->Ty
 | .row e xs _=>.arr (List.length xs) e
 | .box t _ _=>t
 |_=>.unit
def J8g.slot:J8g->J8e
 | .row e xs _=>.v (.arr (List.length xs) e) xs
 | .box _ s _=>s
 |_=>.undef
def Ty.at:Ty->List Step->Option Ty
 |t,[]=>some t
 | .fld a _,.fld 0::p=>a.at p
 | .fld _ r,.fld (k+1)::p=>r.at (.fld k::p)
 | .arr _ e,.idx _::p=>e.at p
 |_,_=>none
theorem Jaq.at_eq:∀{t:Ty} {p:List Step} {o:Nat} {t':Ty},Jaq t p o t'->t.at p=some t'
 |t,[],o,t',h=>by obtain⟨_,rfl⟩:=h;cases t'<;>rfl
 |t,.idx i::p,o,t',h=>by obtain⟨n,e,o2,rfl,_,h,_⟩:=h;rw[Ty.at];exact Jaq.at_eq h
 | .fld a r,.fld 0::p,o,t',h=>by
  rcases Jaq.fld_inv h with⟨_,h⟩|⟨_,_,hk,_⟩;·rw[Ty.at];exact Jaq.at_eq h
  cases hk
 | .fld a r,.fld (k+1)::p,o,t',h=>by
  rcases Jaq.fld_inv h with⟨hk,_⟩|⟨j,o',hk,_,h⟩;·cases hk
  cases hk;rw[Ty.at];exact Jaq.at_eq h
 | .int _,.fld k::p,_,_,h=>by obtain⟨_,_,_,hf,_⟩:=h;cases k<;>simp[Ty.field]at hf
 | .bool,.fld k::p,_,_,h=>by obtain⟨_,_,_,hf,_⟩:=h;cases k<;>simp[Ty.field]at hf
 | .str,.fld k::p,_,_,h=>by obtain⟨_,_,_,hf,_⟩:=h;cases k<;>simp[Ty.field]at hf
 | .flt,.fld k::p,_,_,h=>by obtain⟨_,_,_,hf,_⟩:=h;cases k<;>simp[Ty.field]at hf
 | .cplx,.fld k::p,_,_,h=>by obtain⟨_,_,_,hf,_⟩:=h;cases k<;>simp[Ty.field]at hf
 | .ptr,.fld k::p,_,_,h=>by obtain⟨_,_,_,hf,_⟩:=h;cases k<;>simp[Ty.field]at hf
 | .mp,.fld k::p,_,_,h=>by obtain⟨_,_,_,hf,_⟩:=h;cases k<;>simp[Ty.field]at hf
 | .fn,.fld k::p,_,_,h=>by obtain⟨_,_,_,hf,_⟩:=h;cases k<;>simp[Ty.field]at hf
 | .arr _ _,.fld k::p,_,_,h=>by obtain⟨_,_,_,hf,_⟩:=h;cases k<;>simp[Ty.field]at hf
 | .slice _,.fld k::p,_,_,h=>by obtain⟨_,_,_,hf,_⟩:=h;cases k<;>simp[Ty.field]at hf
 | .unit,.fld k::p,_,_,h=>by obtain⟨_,_,_,hf,_⟩:=h;cases k<;>simp[Ty.field]at hf
theorem Jcv(hh:HRG c G h w)(ho:h[l]? =some o)(hat:o.lay.at p=some ty)(hd:o.isDead=false)(hv:J9e G w (okB c G h w) (.ptr l p) v):∃g b off cs U,G[l]? =some g/\g.blk=some b/\v= .pointer (some ⟨b,off,none⟩)/\w.heap[b]? =some (.cells cs U (0,0))/\Jaq o.lay p off ty/\ J90 G w (okB c G h w) o.slot o.lay (cs.toList.take o.lay.size)/\o.lay.size<=cs.size/\g.lay=o.lay/\ (∀e xs lv,o= .row e xs lv->g.cap*e.size<=cs.size/\g.n=List.length xs/\g.n<=g.cap)/\(∀t s lv,o= .box t s lv->cs.size=t.size):=by
 obtain⟨t,cs0,⟨rfl,g,u,hg,rfl,hk,b,off,t',hb,hp,rfl⟩,hpk⟩:=hv;have hobj:=hh.objs l o g ho hg;cases o with
 |row e xs lv=>
  obtain⟨h1,h2,h3,h4,h5⟩:=hobj;rcases h5 with⟨h5,_⟩|⟨b',cs,U,h5,h6,h7,h8⟩;·rw[h5]at hb;cases hb
  rw[h5]at hb;injection hb with hb;subst hb;have hlay:g.lay=(J8g.row e xs lv).lay:=(by simp[GE.lay,h1,h2,h3,J8g.lay]);rw[hlay]at hp;have:=Jaq.at_eq hp;rw[hat]at this;injection this with this;subst this;have hle:g.n*e.size<=cs.size:=Nat.le_trans (Nat.mul_le_mul_right _ h4) h7;refine⟨g,b',off,cs,U,hg,h5,hpk,h6,hp, ?_, ?_,hlay, ?_,λ_ _ _ h=>by cases h⟩;·refine⟨by rw[h3]at h8;rfl, ?_⟩;rw[h3]at h8;exact h8
  ·show List.length xs*e.size<=cs.size;rw[<-h3];exact hle
  grind
 |box t s lv=>
  obtain⟨h1,h2,b',cs,U,h3,h4,h5⟩:=hobj;rw[h3]at hb;injection hb with hb;subst hb;have hlay:g.lay=(J8g.box t s lv).lay:=(by simp[GE.lay,h1,h2,J8g.lay]);rw[hlay]at hp;have:=Jaq.at_eq hp;rw[hat]at this;injection this with this;subst this;have hl:=J90.len _ h5;refine⟨g,b',off,cs,U,hg,h3,hpk,h4,hp, ?_, ?_,hlay,(λ_ _ _ h=>by cases h),λt' s' lv' heq=>by injection heq with e1;subst e1;simpa using hl⟩;·show J90 G w _ s t (cs.toList.take t.size);grind
  show t.size<=cs.size;rw[<-hl];simp
 |map _ _ _ _=>exact absurd hobj.1 hk
 |dead=>cases hd
theorem Jcr{cs:List Value}{n o s:Nat}(h:o+s<=n):(((cs.take n).drop o).take s)=(cs.drop o).take s:=by rw[List.drop_take,List.take_take,Nat.min_eq_left (by omega)]
theorem Jj5{w:World}{b o n:Nat}{cs:Array Value}{U:TypeId}{f:Nat×Nat}(hb:w.heap[b]? =some (.cells cs U f)):∀j,j<((cs.toList.drop o).take n).length->w.cell? ⟨b,o+j,none⟩=((cs.toList.drop o).take n)[j]?:=by intro j hj;rw[List.length_take]at hj;rw[cell?_here hb,List.getElem?_take,if_pos (by omega),List.getElem?_drop,Array.getElem?_toList]
theorem VOp.val(hv:VOp P o st s h)(hx:Jad h t s=some x):VOp P o st (.v t x) (freezeIds h s.ids):=by
 intro c G a w hs;obtain⟨v,w',G',hr,hh,hG,k,hrel⟩:=hv c G a w hs;obtain⟨h1,k1⟩:=hh.freezeIds s.ids;obtain⟨cs,h2,h3⟩:=Jbw hh (λl hl=>hl) hx hrel
 refine⟨v,w',G', ?_,h1,hG,⟨λb hb=>k1.sub b (k.sub b hb),λb o v hb hv=>k1.cell b o v (k.sub b hb) (k.cell b o v hb hv)⟩,⟨t,cs,⟨rfl,h2⟩,h3⟩⟩;rcases hr with hr|⟨hr,hu⟩;·exact .inl hr
 subst hu;cases t<;>cases hx
def told(h:List J8g)(t:Ty)(s:J8e):J8e×List J8g:=
 match s with
 | .node a r=>match Jad h t (.node a r)with
  |some x=>(.v t x,freezeIds h (J8e.node a r).ids)
  |none=>(.node a r,h)
 |s=>(s,h)
theorem VOp.told t (hv:VOp P o st s h):VOp P o st (Ax.told h t s).1 (Ax.told h t s).2:=by
 unfold Ax.told;split
 ·split;·rename_i hx;exact hv.val hx
  exact hv
 exact hv
def Jz3(T:Tab)(h:List J8g)(t:Nat)(s:J8e):Option (J8e×List J8g):=
 match T.ty t with
 |none=>none
 |some ty=>match s with
  | .ref t' x=>if t'=ty then some (.v t' x,h)else none
  | .ptr l p=>if(J8m h l).lay.at p=some ty/\(J8m h l).isDead=false then some (told h ty ((J8m h l).slot.get p))else none
  |_=>none
theorem Jde(hd:(J8m h l).isDead=false):h[l]? =some (J8m h l):=by
 unfold J8m at*
 rw[List.getD_eq_getElem?_getD]at*
 cases hh:h[l]? with
 |none=>rw[hh]at hd;cases hd
 |some o=>rfl
theorem Ju3(hT:J9a P T){o:Oper}{st:St}{t:Nat}{x:Operand}{s:J8e}{h':List J8g}(hop:o.op= .load t x)(he:Jz3 T st.heap t (J9d st.slots x)=some (s,h')):VOp P o st s h':=by
 unfold Jz3 at he;split at he;·cases he
 rename_i ty hty;obtain⟨by_,hg⟩:=Tab.ty_get hty;have hI:=hT _ _ _ hg;split at he
 ·rename_i t' y hx;split at he;·rename_i ht;subst ht;cases he;refine VOp.pure λc G a w hs=> ?_;have hv:=J8s hs x;rw[hx]at hv;obtain⟨t2,cs,⟨rfl,b,off,cs',rfl,hok,hrep,hcell⟩,hpk⟩:=hv;have hpk:a.eval x= .pointer (some ⟨b,off,none⟩):=hpk;refine⟨pack t' cs', ?_,⟨t',cs',⟨rfl,hrep⟩,rfl⟩⟩;simp[execOp,hop,Instr.loadAt,Instr.sureAddr,hpk,Jg2 hI (J92.len _ hrep) hcell]
  cases he
 ·rename_i l p hx;split at he;·rename_i hc;injection he with he;have hold:VOp P o st ((J8m st.heap l).slot.get p) st.heap:=(by refine VOp.pure λc G a w hs=> ?_;have hv:=J8s hs x;rw[hx]at hv;obtain⟨g,b,off,cs,U,hg,hb,hpk,hheap,hp,hrel,hle,_⟩:=Jcv hs.toHRG (Jde hc.2) hc.1 hc.2 hv;have h1:=J8e.get_ok hrel hp;rw[Jcr (Jaq.le hp)]at h1;refine⟨pack ty ((cs.toList.drop off).take ty.size), ?_,J9e.of h1⟩;simp[execOp,hop,Instr.loadAt,Instr.sureAddr,hpk,Jg2 hI (J90.len _ h1) (Jj5 hheap)]);have:=hold.told ty;rw[he]at this;exact this
  cases he
 cases he
def J8g.put(o:J8g)(p:List Step)(n:J8e):Option J8g:=
 match o with
 | .row e xs true=>match p,n with
  |[],.v (.arr _ e') ys=>match cast? (.slice e') (.slice e) ys with
   |some zs=>some (.row e zs true)
   |none=>none
  | .idx i::p,.v t y=>match Kcq e (List.getD xs i e.zero) p t y with
   |some z=>some (.row e (List.set xs i z) true)
   |none=>none
  |_,_=>none
 | .box t s true=>some (.box t (s.set p n) true)
 |_=>none
def Jn7 (T:Tab) (h:List J8g) (t:Nat) (s n:J8e):Option (List J8g):=
 match T.ty t with
 |none=>none
 | some ty=>match s with
  | .ptr l p=>if(J8m h l).lay.at p=some ty/\fits h n ty=true then match (J8m h l).put p n with
    |some o'=>some (h.set l o')
    |none=>none
   else none
  |_=>none
theorem J8g.put_live{o o':J8g}{p:List Step}{n:J8e}(h:o.put p n=some o'):o.live=true/\o'.live=true/\o.isDead=false/\o'.isDead=false:=by
 unfold J8g.put at h;split at h
 ·split at h
  ·split at h;·cases h;exact⟨rfl,rfl,rfl,rfl⟩
   cases h
  ·split at h;·cases h;exact⟨rfl,rfl,rfl,rfl⟩
   cases h
  cases h
 ·cases h;exact⟨rfl,rfl,rfl,rfl⟩
 cases h
theorem Jv1(hh:HRG c G h w){ty:Ty}{n:J8e}{cs:List Value}(ho:h[l]? =some o)(hput:o.put p n=some o')(hn:J90 G w (okB c G h w) n ty cs){g:GE}{b off:Nat}{arr arr':Array Value}{U:TypeId}(hg:G[l]? =some g)(hb:g.blk=some b)(hp:Jaq o.lay p off ty)(hrel:J90 G w (okB c G h w) o.slot o.lay (arr.toList.take o.lay.size))(hle:o.lay.size<=arr.size)(hrow:∀e xs lv,o= .row e xs lv->g.cap*e.size<=arr.size/\g.n=List.length xs/\g.n<=g.cap)(hbox:∀t s lv,o= .box t s lv->arr.size=t.size)(hw:Wrote w w' b arr' U)(hsp:arr'.toList=splice arr.toList off cs):HRG c G (h.set l o') w'/\okB c G (h.set l o') w'=okB c G h w/\J9c w w' (okB c G h w) (okB c G h w):=by
 obtain⟨hl1,hl2,hd1,hd2⟩:=J8g.put_live hput;have hlen:=J90.len _ hn;have hpl:=Jaq.le hp;have hobj:=hh.objs l o g ho hg;refine hh.wrote ho hg hl1 hb hw hl2 hd2 λk=> ?_;have hset:=J8e.set_ok hrel hp hn;have hset':=J90.mono (Ext.refl G) k _ hset;have hsz:arr'.toList.take o.lay.size=splice (arr.toList.take o.lay.size) off cs:=by
  rw[hsp];have e1:arr.toList=arr.toList.take o.lay.size++arr.toList.drop o.lay.size:=(List.take_append_drop _ _).symm;have l1:(arr.toList.take o.lay.size).length=o.lay.size:=(by rw[List.length_take,Array.length_toList];omega);conv=>lhs;rw[e1]
  rw[Je5 (by rw[l1,hlen];exact hpl),List.take_append_of_le_length (by rw[Jfd (by rw[l1,hlen];exact hpl),l1];exact Nat.le_refl _)];rw[List.take_of_length_le (by rw[Jfd (by rw[l1,hlen];exact hpl),l1];exact Nat.le_refl _)]
 have hsize:arr'.size=arr.size:=by have:arr'.toList.length=arr.toList.length:=(by rw[hsp,Jfd (by rw[hlen,Array.length_toList];omega)]);simpa using this
 rw[<-hsz]at hset';unfold J8g.put at hput;split at hput
 ·rename_i e xs;obtain⟨h1,h2,h3,h4,h5⟩:=hobj;have fin:∀(zs:List e.den),J92 w' (okB c G h w) (.arr (List.length xs) e) (arr'.toList.take (List.length xs*e.size)) zs->Jet G w' (okB c G h w) g (.row e zs true):=by intro zs hz;obtain⟨c1,c2,c3⟩:=hrow _ _ _ rfl;refine⟨h1,h2,by rw[h3];exact hz.1.symm,h4,.inr ⟨b,arr',U,hb,hw.here,by rw[hsize];exact c1, ?_⟩⟩;rw[h3];exact hz
  have hset'':J90 G w' (okB c G h w) (J8e.set (.v (.arr (List.length xs) e) xs) p n) (.arr (List.length xs) e) (arr'.toList.take (List.length xs*e.size)):=hset';split at hput
  ·rename_i m e' ys;split at hput;·rename_i zs hzs;cases hput;obtain⟨heq,hzs⟩:=Jcs hzs;injection heq with heq;subst heq;subst hzs;obtain⟨q1,r1,r2⟩:=hset'';injection q1 with q1 _;subst q1;exact fin ys ⟨r1,r2⟩
   cases hput
  ·rename_i i p' t' y;split at hput;·rename_i z hz;cases hput;have e1:J8e.set (.v (.arr (List.length xs) e) xs) (.idx i::p') (.v t' y)= .v (.arr (List.length xs) e) (List.set xs i z):=(by simp only[J8e.set,Kcq,hz]);rw[e1]at hset'';exact fin _ hset''.2
   cases hput
  cases hput
 ·rename_i t0 s0;cases hput;obtain⟨h1,h2,_⟩:=hobj;refine⟨h1,h2,b,arr',U,hb,hw.here, ?_⟩;have hs:=hbox _ _ _ rfl;have hset'':J90 G w' (okB c G h w) (s0.set p n) t0 (arr'.toList.take t0.size):=hset';have:arr'.toList.take t0.size=arr'.toList:=List.take_of_length_le (by rw[Array.length_toList,hsize,hs];exact Nat.le_refl _);rwa[this]at hset''
 cases hput
theorem Ket(hh:HRG c G h w)(ho:h[l]? =some o)(hat:o.lay.at p=some ty)(hv:J9e G w (okB c G h w) (.ptr l p) v)(hput:o.put p n=some o')(hn:J90 G w (okB c G h w) n ty cs)(hsol:n.solid=true)(hI:TyI P T t ty by_):∃b off w',v= .pointer (some ⟨b,off,none⟩)/\(storeVar t ⟨b,off,none⟩ (pack ty cs)).run P w= .ok () w'/\HRG c G (h.set l o') w'/\ okB c G (h.set l o') w'=okB c G h w/\J9c w w' (okB c G h w) (okB c G h w):=by obtain⟨hl1,hl2,hd1,hd2⟩:=J8g.put_live hput;obtain⟨g,b,off,arr,U,hg,hb,hpk,hheap,hp,hrel,hle,hlay,hrow,hbox⟩:=Jcv hh ho hat hd1 hv;have hlen:=J90.len _ hn;have hpl:=Jaq.le hp;obtain⟨w',arr',hrun,hw,hsp⟩:=Jvd (o:=off) hI hlen (J90.cells n hsol hn) hheap (by omega);refine⟨b,off,w',hpk,hrun, ?_⟩;exact Jv1 hh ho hput hn hg hb hp hrel hle hrow hbox hw hsp
theorem Jqr(hT:J9a P T)(hop:o.op= .store t x y)(he:Jn7 T st.heap t (J9d st.slots x) n=some h')(hs:SRG c G st a w)(hy:J9e G w (okB c G st.heap w) n (a.eval y)):∃w',(execOp a.eval o).run P w= .ok .skip w'/\HRG c G h' w'/\J9c w w' (okB c G st.heap w) (okB c G h' w'):=by
 unfold Jn7 at he;split at he;·cases he
 rename_i ty hty;obtain⟨by_,hgt⟩:=Tab.ty_get hty;have hI:=hT _ _ _ hgt;split at he
 ·rename_i l p hx;split at he
  ·rename_i hc;split at he;·rename_i o' hput;cases he;have hv:=J8s hs x;rw[hx]at hv;obtain⟨cs,hn,hpk,hsol⟩:=Jrv hs.toHRG hc.2 hy;obtain⟨b,off,w',h1,h2,h3,h4,h5⟩:=Ket hs.toHRG (Jde (J8g.put_live hput).2.2.1) hc.1 hv hput hn hsol hI;refine⟨w', ?_,h3,by rw[h4];exact h5⟩;simp[execOp,hop,Instr.storeAt,Instr.sureAddr,h1,hpk,h2]
   cases he
  cases he
 cases he
theorem K17(hT:J9a P T)(hop:o.op= .store t x y)(he:Jn7 T st.heap t (J9d st.slots x) (J9d st.slots y)=some h'):VOp P o st .undef h':=by intro c G a w hs;obtain⟨w',h1,h2,h3⟩:=Jqr hT hop he hs (J8s hs y);exact⟨undef,w',G,.inr ⟨h1,rfl⟩,h2,Ext.refl G,h3,trivial⟩
def Jrn(T:Tab)(h:List J8g)(t:Nat)(s n:J8e):Option (List J8g):=
 match T.ty t with
 |some ty=>match Jad h ty n with
  |some x=>Jn7 T (freezeIds h n.ids) t s (.v ty x)
  |none=>none
 |none=>none
theorem Jwu(hT:J9a P T)(hop:o.op= .store t x y)(he:Jrn T st.heap t (J9d st.slots x) (J9d st.slots y)=some h'):VOp P o st .undef h':=by
 unfold Jrn at he;split at he
 ·rename_i ty hty;split at he
  ·rename_i z hz;intro c G a w hs;obtain⟨h1,k⟩:=hs.toHRG.freezeIds (J9d st.slots y).ids;obtain⟨cs,h4,h3⟩:=Jbw hs.toHRG (λl hl=>hl) hz (J8s hs y)
   have hs2:=hs.on h1 (Ext.refl G) k;obtain⟨w',e1,e2,e3⟩:=Jqr (n:=.v ty z) hT hop he hs2 ⟨ty,cs,⟨rfl,h4⟩,h3⟩;exact⟨undef,w',G,.inr ⟨e1,rfl⟩,e2,Ext.refl G,⟨λb hb=>e3.sub b (k.sub b hb),λb o v hb hv=>e3.cell b o v (k.sub b hb) (k.cell b o v hb hv)⟩,trivial⟩
  cases he
 cases he
theorem K58(hh:HRG c G h w) U (hs:J90 G w (okB c G h w) s ty cs):HRG c (G++[⟨.box,some w.heap.size,ty,0,0⟩]) (h++[.box ty s true]) (w.alloc (.cells cs.toArray U))/\ J9c w (w.alloc (.cells cs.toArray U)) (okB c G h w) (okB c (G++[⟨.box,some w.heap.size,ty,0,0⟩]) (h++[.box ty s true]) (w.alloc (.cells cs.toArray U)))/\ ∀ok',J9e (G++[⟨.box,some w.heap.size,ty,0,0⟩]) (w.alloc (.cells cs.toArray U)) ok' (.ptr h.length []) (.pointer (some ⟨w.heap.size,0,none⟩)):=by
 obtain⟨h1,h2⟩:=hh.alloc (o:=.box ty s true) (g:=⟨.box,some w.heap.size,ty,0,0⟩) (cs:=cs.toArray) (U:=U) rfl (λok' k=>by
  refine⟨rfl,rfl,w.heap.size,cs.toArray,U,rfl, ?_, ?_⟩;·show(w.heap.push _)[w.heap.size]? =_;simp
  exact J90.mono (Ext.snoc _ _) k s hs)
 refine⟨h1,h2,λok'=>⟨.ptr,_,⟨rfl,⟨.box,some w.heap.size,ty,0,0⟩,.pointer (some ⟨w.heap.size,0,none⟩), ?_,rfl, ?_⟩,rfl⟩⟩;·rw[<-hh.len];simp
 exact⟨by simp,w.heap.size,0,ty,rfl,⟨rfl,rfl⟩,rfl⟩
theorem Jb8:∀(t:Ty),∀v∈J9h t,v.oneCell'=true
 | .int _,v,hv=>by simp[J9h]at hv;subst hv;rfl
 | .bool,v,hv=>by simp[J9h]at hv;subst hv;rfl
 | .str,v,hv=>by simp[J9h]at hv;subst hv;rfl
 | .flt,v,hv=>by simp[J9h]at hv;subst hv;rfl
 | .cplx,v,hv=>by simp[J9h]at hv;subst hv;rfl
 | .ptr,v,hv=>by simp[J9h]at hv;subst hv;rfl
 | .mp,v,hv=>by simp[J9h]at hv;subst hv;rfl
 | .fn,v,hv=>by simp[J9h]at hv;subst hv;rfl
 | .slice _,v,hv=>by simp[J9h]at hv;subst hv;rfl
 | .unit,v,hv=>by cases hv
 | .fld a r,v,hv=>by
  rcases List.mem_append.1 hv with hv|hv;·exact Jb8 a v hv
  exact Jb8 r v hv
 | .arr n e,v,hv=>by simp only[J9h,List.mem_flatten]at hv;obtain⟨l,hl,hv⟩:=hv;rw[List.eq_of_mem_replicate hl]at hv;exact Jb8 e v hv
def Jwo(T:Tab)(h:List J8g)(t:Nat):Option (J8e×List J8g):=
 match T.ty t with
 |none=>none
 |some .mp=>none
 |some .fn=>none
 |some ty=>some (.ptr h.length [],h++[.box ty (Jkf ty) true])
theorem K14(hT:J9a P T)(hop:o.op= .alloc t)(he:Jwo T st.heap t=some (s,h')):VOp P o st s h':=by
 unfold Jwo at he;split at he;·cases he
 ·cases he
 ·cases he
 rename_i ty h1 h2 hty;cases he;obtain⟨by_,hgt⟩:=Tab.ty_get hty;have hI:=hT _ _ _ hgt;intro c G a w hs;obtain⟨r1,r2,r3⟩:=K58 hs.toHRG t (Jhg G w (okB c G st.heap w) ty);refine⟨_,_,_,.inl ?_,r1,Ext.snoc _ _,r2,r3 _⟩;have hz:=hI.run_zero h1 h2 w;have hc:(pack ty (J9h ty)).cells=(J9h ty).toArray:=by apply Array.toList_inj.1;rw[pack_cells (Jae ty) (Jb8 ty)]
 simp[execOp,hop,Instr.alloc,hz,newVar,newRow,hc]
end Go.Ax

namespace Go.Ax
variable {P : Program} {T : Tab}
theorem Ju5:∀{fs:List Field} {ty:Ty} {o k o1:Nat} {t1:Ty},Jco T fs ty o->ty.field k=some (o1,t1)->
  ∃f,fs[k]? =some f/\f.offset=o+o1/\T.ty f.type=some t1
 |[],.unit,_,k,_,_,_,h=>by cases k<;>simp[Ty.field]at h
 |f::fs,.fld a r,o,0,_,_,hF,h=>by obtain⟨rfl,rfl⟩:=h;exact⟨f,rfl,by rw[hF.2.1];rfl,hF.1⟩
 |f::fs,.fld a r,o,k+1,o1,t1,hF,h=>by
  simp only[Ty.field]at h;cases hr:r.field k with
  |none=>rw[hr]at h;cases h
  |some z=>rw[hr]at h;obtain⟨f',h1,h2,h3⟩:=Ju5 hF.2.2 hr;grind
 |[],.int _,_,_,_,_,hF,_=>hF.elim
 |[],.bool,_,_,_,_,hF,_=>hF.elim
 |[],.str,_,_,_,_,hF,_=>hF.elim
 |[],.flt,_,_,_,_,hF,_=>hF.elim
 |[],.cplx,_,_,_,_,hF,_=>hF.elim
 |[],.ptr,_,_,_,_,hF,_=>hF.elim
 |[],.mp,_,_,_,_,hF,_=>hF.elim
 |[],.fn,_,_,_,_,hF,_=>hF.elim
 |[],.arr _ _,_,_,_,_,hF,_=>hF.elim
 |[],.slice _,_,_,_,_,hF,_=>hF.elim
 |[],.fld _ _,_,_,_,_,hF,_=>hF.elim
 |_::_,.unit,_,_,_,_,hF,_=>hF.elim
 |_::_,.int _,_,_,_,_,hF,_=>hF.elim
 |_::_,.bool,_,_,_,_,hF,_=>hF.elim
 |_::_,.str,_,_,_,_,hF,_=>hF.elim
 |_::_,.flt,_,_,_,_,hF,_=>hF.elim
 |_::_,.cplx,_,_,_,_,hF,_=>hF.elim
 |_::_,.ptr,_,_,_,_,hF,_=>hF.elim
 |_::_,.mp,_,_,_,_,hF,_=>hF.elim
 |_::_,.fn,_,_,_,_,hF,_=>hF.elim
 |_::_,.arr _ _,_,_,_,_,hF,_=>hF.elim
 |_::_,.slice _,_,_,_,_,hF,_=>hF.elim
theorem Jaq.snoc:∀{p:List Step} {t:Ty} {o:Nat} {t1:Ty} {q:List Step} {o2:Nat} {t2:Ty},Jaq t p o t1->Jaq t1 q o2 t2->Jaq t (p++q) (o+o2) t2
 |[],t,o,t1,q,o2,t2,h,h'=>by obtain⟨rfl,rfl⟩:=h;rw[Nat.zero_add];exact h'
 | .fld k::p,t,o,t1,q,o2,t2,h,h'=>by obtain⟨a,b,c,h1,h2,rfl⟩:=h;exact⟨a,b,c+o2,h1,Jaq.snoc h2 h',by omega⟩
 | .idx i::p,t,o,t1,q,o2,t2,h,h'=>by obtain⟨n,e,c,h1,h2,h3,rfl⟩:=h;exact⟨n,e,c+o2,h1,h2,Jaq.snoc h3 h',by omega⟩
theorem Jow(hT:J9a P T)(ht:T.ty t=some ty)(hf:ty.field k=some (o1,t1)) w:∃fs f by_,(underlying t).run P w= .ok (.struct fs) w/\fs[k]? =some f/\f.offset=o1/\TyI P T f.type t1 by_:=by
 obtain⟨by_,hg⟩:=Tab.ty_get ht;obtain⟨d,hd,hD⟩:=(hT _ _ _ hg).run_under w;have:∃a r,ty= .fld a r:=by cases ty<;>first|exact⟨_,_,rfl⟩|(cases k<;>simp[Ty.field]at hf)
 obtain⟨a,r,rfl⟩:=this;obtain⟨fs,rfl,hF⟩:=hD;obtain⟨f,h1,h2,h3⟩:=Ju5 hF hf;obtain⟨b2,hg2⟩:=Tab.ty_get h3;exact⟨fs,f,b2,hd,by rw[<-Array.getElem?_toList];exact h1,by omega,hT _ _ _ hg2⟩
def refOf:J8e->Option J8e
 | .v t x=>some (.ref t x)
 |_=>none
def Jai(T:Tab)(h:List J8g)(t:Nat)(s:J8e)(k:Nat):Option J8e:=
 match T.ty t with
 |none=>none
 | some ty=>match ty.field k with
  |none=>none
  |some (_,t1)=>if t1.size=0 then none else match s with
   | .ptr l p=>if(J8m h l).lay.at p=some ty/\(J8m h l).isDead=false then some (.ptr l (p++[.fld k]))else none
   | .ref t' x=>if t'=ty then refOf (K2f t' x [.fld k])else none
   |_=>none
theorem Jid(hI:TyI P T f.type t1 by_)(h0:t1.size≠0) b o w:(fieldPlace ⟨b,o,none⟩ f).run P w= .ok ⟨b,o+f.offset,none⟩ w:=by simp[fieldPlace,hI.run_size w,h0,add_plain]
theorem Ki(hrep:J92 w ok t cs x)(hp:Jaq t p o t1)(hy:K2f t x p= .v t' y)(hok:ok b)(hc:∀j,j<cs.length->w.cell? ⟨b,off+j,none⟩=cs[j]?):t'=t1/\J9e G w ok (.ref t' y) (.pointer (some ⟨b,off+o,none⟩)):=by have h1:=Jt3 (G:=G) hrep hp;rw[hy]at h1;obtain⟨rfl,h2⟩:=h1;refine⟨rfl,⟨.ptr,_,⟨rfl,b,off+o,_,rfl,hok,h2,λj hj=> ?_⟩,rfl⟩⟩;grind
theorem Jen(hT:J9a P T)(hop:o.op= .fieldAddr t x k)(he:Jai T st.heap t (J9d st.slots x) k=some s):VOp P o st s st.heap:=by
 unfold Jai at he;split at he;·cases he
 rename_i ty hty;split at he;·cases he
 rename_i o1 t1 hf;split at he;·cases he
 rename_i h0;have hpo:∀{t':Ty},t'=ty->Jaq t' [.fld k] o1 t1:=(by rintro _ rfl;exact⟨o1,t1,0,hf,⟨rfl,rfl⟩,rfl⟩);split at he
 ·rename_i l p hx;split at he
  ·rename_i hc;cases he;refine VOp.pure λc G a w hs=> ?_;obtain⟨fs,f,by_,hu,hfk,hoff,hI⟩:=Jow hT hty hf w;have hv:=J8s hs x;rw[hx]at hv;obtain⟨g,b,off,cs,U,hg,hb,hpk,hheap,hp,hrel,hle,hlay,_⟩:=Jcv hs.toHRG (Jde hc.2) hc.1 hc.2 hv;refine⟨.pointer (some ⟨b,off+f.offset,none⟩), ?_, ?_⟩;·simp[execOp,hop,Instr.fieldAt,Instr.sureAddr,hpk,hu,hfk,Jid hI h0]
   obtain⟨_,_,⟨_,g',_,hg',_,hk,_⟩,_⟩:=hv;rw[hg]at hg';injection hg' with hg';subst hg';exact⟨.ptr,_,⟨rfl,g,_,hg,rfl,hk,b,_,t1,hb,by rw[hlay,hoff];exact Jaq.snoc hp (hpo rfl),rfl⟩,rfl⟩
  cases he
 ·rename_i t' y hx;split at he
  ·rename_i hc;unfold refOf at he;split at he;·rename_i t2 z hz;cases he;refine VOp.pure λc G a w hs=> ?_;obtain⟨fs,f,by_,hu,hfk,hoff,hI⟩:=Jow hT hty hf w;have hv:=J8s hs x;rw[hx]at hv;obtain⟨tt,cs,⟨rfl,b,off,cs',rfl,hok,hrep,hcell⟩,hpk⟩:=hv;have hpk:a.eval x= .pointer (some ⟨b,off,none⟩):=hpk;obtain⟨_,hr⟩:=Ki (G:=G) hrep (hpo hc) hz hok hcell;refine⟨.pointer (some ⟨b,off+f.offset,none⟩), ?_,by rw[hoff];exact hr⟩;simp[execOp,hop,Instr.fieldAt,Instr.sureAddr,hpk,hu,hfk,Jid hI h0]
   cases he
  cases he
 cases he
def Jrf (T:Tab) (t:Nat) (s:J8e) (k:Nat):Option J8e:=
 match T.ty t,s with
 | some ty,.v t' x=>if t'=ty then match ty.field k with
   |some _=>match K2f t' x [.fld k]with
    | .v t2 y=>some (.v t2 y)
    |_=>none
   |none=>none
  else none
 |_,_=>none
theorem Jpo(hT:J9a P T)(hop:o.op= .field t x k)(he:Jrf T t (J9d st.slots x) k=some s):VOp P o st s st.heap:=by
 unfold Jrf at he;split at he
 ·rename_i ty t' y hty hx;split at he
  ·rename_i hc;subst hc;split at he
   ·rename_i z hf;obtain⟨o1,t1⟩:=z;split at he
    ·rename_i t2 q hq;cases he;refine VOp.pure λc G a w hs=> ?_;obtain⟨fs,f,by_,hu,hfk,hoff,hI⟩:=Jow hT hty hf w;have hv:=J8s hs x;rw[hx]at hv;obtain⟨tt,cs,⟨rfl,hrep⟩,hpk⟩:=hv;have hag:t'.isAgg=true:=(by cases t'<;>first|rfl|(cases k<;>simp[Ty.field]at hf));have hpk:a.eval x= .agg cs.toArray:=by rw[hpk,pack,if_pos hag]
     have hp:Jaq t' [.fld k] o1 t1:=⟨o1,t1,0,hf,⟨rfl,rfl⟩,rfl⟩;have h1:=Jt3 (G:=G) hrep hp;have hle:=Jaq.le hp;rw[hq]at h1;have hrun:=hI.run_part (cs:=cs.toArray) (o:=o1) (by simp[J92.len _ hrep];exact hle) w;refine⟨_, ?_,J9e.of h1⟩;simp[execOp,hop,Instr.field,asAgg,hpk,hu,hfk,hoff,hrun]
    cases he
   cases he
  cases he
 cases he
def Jfo (T:Tab) (h:List J8g) (t:Nat) (s i:J8e):Option (List Prop×J8e):=
 match i with
 | .v (.int k) i=>let i:=IK.toInt k i
  match T.ty t with
  | some (.arr n e)=>match s with
   | .ptr l p=>if(J8m h l).lay.at p=some (.arr n e)/\(J8m h l).isDead=false then some ([0<=i/\i<(n:Int)],.ptr l (p++[.idx i.toNat]))else none
   | .ref t' x=>if t'= .arr n e then match K2f t' x [.idx i.toNat]with
     | .v t2 y=>some ([0<=i/\i<(n:Int)],.ref t2 y)
     |_=>none
    else none
   |_=>none
  | some (.slice e)=>match s with
   | .v (.slice e') xs=>if e'=e then some ([0<=i/\i<(List.length xs:Int)],.ref e' (List.getD xs i.toNat e'.zero))else none
   | .own l p=>match J99 (J8m h l) p with
    |some r=>if r.e=e then some ([0<=i/\i<(List.length r.xs:Int)],.ptr l (p++[.idx i.toNat]))else none
    |none=>none
   |_=>none
  |_=>none
 |_=>none
theorem Jyj(hT:J9a P T)(ht:T.ty t=some (.arr n e)) w:∃te by_,(underlying t).run P w= .ok (.array n te) w/\TyI P T te e by_:=by obtain⟨by_,hg⟩:=Tab.ty_get ht;obtain⟨d,hd,te,rfl,hte⟩:=(hT _ _ _ hg).run_under w;obtain⟨b2,hg2⟩:=Tab.ty_get hte;exact⟨te,b2,hd,hT _ _ _ hg2⟩
theorem Jdi(hT:J9a P T)(ht:T.ty t=some (.slice e)) w:∃te by_,(underlying t).run P w= .ok (.slice te) w/\T.get te=some (e,by_)/\TyI P T te e by_:=by obtain⟨by_,hg⟩:=Tab.ty_get ht;obtain⟨d,hd,te,rfl,hte⟩:=(hT _ _ _ hg).run_under w;obtain⟨b2,hg2⟩:=Tab.ty_get hte;exact⟨te,b2,hd,hg2,hT _ _ _ hg2⟩
theorem Jdv(hh:HRG c G h w)(hr:J99 (J8m h l) p=some r)(hv:J9e G w (okB c G h w) (.own l p) v):∃g,G[l]? =some g/\(J8m h l).isDead=false/\h[l]? =some (J8m h l)/\ ((g.blk=none/\r.xs=[]/\v= .slice none 0 0/\g.kind= .row)\/ ∃b o cs U cap,g.blk=some b/\v= .slice (some ⟨b,o,none⟩) (List.length r.xs) cap/\List.length r.xs<=cap/\w.heap[b]? =some (.cells cs U (0,0))/\ Jaq g.lay p o (.arr (List.length r.xs) r.e)/\g.kind≠.map/\J92 w (okB c G h w) (.arr (List.length r.xs) r.e) ((cs.toList.drop o).take (List.length r.xs*r.e.size)) r.xs):=by
 obtain⟨ho,hd⟩:=Jjo hr;obtain⟨t,cs0,⟨g,u,hg,rfl,hu⟩,hpk⟩:=hv;have hobj:=hh.objs l _ g ho hg;refine⟨g,hg,hd,ho, ?_⟩;generalize J8m h l=ob at*
 cases ob with
 | row e xs lv=>
  cases p with
  |cons _ _=>simp[J99]at hr
  | nil=>
   simp only[J99,Option.some.injEq]at hr;subst hr;obtain⟨h1,h2,h3,h4,h5⟩:=hobj;rcases hu with⟨_,_,rfl,rfl⟩|⟨hk,_⟩
   ·have hpk:v= .slice (g.blk.map λb=>⟨b,0,none⟩) g.n g.cap:=hpk;rcases h5 with⟨h5,h6⟩|⟨b,cs,U,h5,h6,h7,h8⟩;·grind
    right;refine⟨b,0,cs,U,g.cap,h5,by rw[hpk,h5,h3];rfl,by show List.length xs<=g.cap;omega,h6, ?_,by rw[h1];simp, ?_⟩;·simp only[GE.lay,h1,h2,h3];exact⟨rfl,rfl⟩
    grind
   rw[h1]at hk;cases hk
 | box t s lv=>
  simp only[J99]at hr;split at hr
  ·rename_i n e xs hs;cases hr;obtain⟨h1,h2,b,c,U,h3,h4,h5⟩:=hobj;rcases hu with⟨_,hk,_⟩|⟨_,b',o',n',e',hb',hp,rfl,rfl⟩;·rw[h1]at hk;cases hk
   rw[h3]at hb';injection hb' with hb';subst hb';have h6:=J8e.get_ok h5 (by rw[<-h2];exact hp);rw[hs]at h6;obtain⟨he,h7⟩:=h6;injection he with he1 he2;subst he1;subst he2;have hn:List.length xs=n:=h7.1;have hpk:v= .slice (some ⟨b,o',none⟩) n n:=hpk;right;refine⟨b,o',c,U,n,h3,by rw[hpk,hn],by rw[hn];exact Nat.le_refl _,h4, ?_,by rw[h1];simp, ?_⟩;·simp only[GE.lay,h1,hn];exact hp
   rw[hn];exact h7
  cases hr
 |map _ _ _ _=>simp[J99]at hr
 |dead=>simp[J99]at hr
theorem Ji7(hT:J9a P T)(hop:o.op= .indexAddr t x y)(he:Jfo T st.heap t (J9d st.slots x) (J9d st.slots y)=some (ps,s))(hps:Jb2 ps):VOp P o st s st.heap:=by
 unfold Jfo at he;split at he
 ·rename_i k i hy;dsimp only at he;refine VOp.pure λc G a w hs=> ?_;have hyv:=J8s hs y;rw[hy]at hyv;have hyv:=Jgf hyv;have hv:=J8s hs x;generalize hI:IK.toInt k i=z at*
  split at he
  ·rename_i n e hty;obtain⟨te,by_,hu,hIe⟩:=Jyj hT hty w;split at he
   ·rename_i l p hx;split at he
    ·rename_i hc;cases he;obtain⟨hz,_⟩:=hps;rw[hx]at hv;obtain⟨g,b,off,cs,U,hg,hb,hpk,hheap,hp,hrel,hle,hlay,_⟩:=Jcv hs.toHRG (Jde hc.2) hc.1 hc.2 hv;refine⟨.pointer (some ⟨b,off+z.toNat*e.size,none⟩), ?_, ?_⟩;·simp[execOp,hop,Instr.indexAt,Instr.sureAddr,hpk,hyv,asIntOf,hu,hz,hIe.run_size,add_plain]
     obtain⟨_,_,⟨_,g',_,hg',_,hk,_⟩,_⟩:=hv;rw[hg]at hg';injection hg' with hg';subst hg';refine⟨.ptr,_,⟨rfl,g,_,hg,rfl,hk,b,_,e,hb, ?_,rfl⟩,rfl⟩;rw[hlay];exact Jaq.snoc hp ⟨n,e,0,rfl,by omega,⟨rfl,rfl⟩,by omega⟩
    cases he
   ·rename_i t' q hx;split at he
    ·rename_i hc;subst hc;split at he;·rename_i t2 yy hq;cases he;obtain⟨hz,_⟩:=hps;rw[hx]at hv;obtain⟨tt,cs,⟨rfl,b,off,cs',rfl,hok,hrep,hcell⟩,hpk⟩:=hv;have hpk:a.eval x= .pointer (some ⟨b,off,none⟩):=hpk;obtain⟨_,hr⟩:=Ki (G:=G) hrep (p:=[.idx z.toNat]) (o:=z.toNat*e.size) (t1:=e) ⟨n,e,0,rfl,by omega,⟨rfl,rfl⟩,by omega⟩ hq hok hcell;refine⟨.pointer (some ⟨b,off+z.toNat*e.size,none⟩), ?_,hr⟩;simp[execOp,hop,Instr.indexAt,Instr.sureAddr,hpk,hyv,asIntOf,hu,hz,hIe.run_size,add_plain]
     cases he
    cases he
   cases he
  ·rename_i e hty;obtain⟨te,by_,hu,_,hIe⟩:=Jdi hT hty w;split at he
   ·rename_i e' xs hx;split at he
    ·rename_i hc;subst hc;cases he;obtain⟨hz,_⟩:=hps;rw[hx]at hv;obtain⟨tt,cs,⟨rfl,ad,cap,rfl,hcap,hrow⟩,hpk⟩:=hv;have hlt:z.toNat<List.length xs:=(by omega);rcases hrow with rfl|⟨b,off,rfl,hok,hrow⟩;·simp at hlt
     have hpk:a.eval x= .slice (some ⟨b,off,none⟩) (List.length xs) cap:=hpk;refine⟨.pointer (some ⟨b,off+z.toNat*e'.size,none⟩), ?_, ?_⟩;·simp[execOp,hop,Instr.indexAt,hpk,hyv,asIntOf,hu,hz,hIe.run_size,add_plain]
     have hget:List.getD xs z.toNat e'.zero=xs[z.toNat]:=(by rw[List.getD_eq_getElem?_getD,List.getElem?_eq_getElem hlt];rfl);obtain⟨cs,h3,h4⟩:=hrow z.toNat _ (List.getElem?_eq_getElem hlt);rw[hget];exact⟨.ptr,_,⟨rfl,b,_,cs,rfl,hok,h3,h4⟩,rfl⟩
    cases he
   ·rename_i l p hx;split at he
    ·rename_i r hr;split at he
     ·rename_i hc;subst hc;cases he;obtain⟨hz,_⟩:=hps;rw[hx]at hv;obtain⟨g,hg,hd,ho,hcase⟩:=Jdv hs.toHRG hr hv;rcases hcase with⟨_,hnil,_⟩|⟨b,off,cs,U,cap,hb,hpk,hcap,hheap,hp,hk,hrep⟩;·rw[hnil]at hz;simp at hz;omega
      refine⟨.pointer (some ⟨b,off+z.toNat*r.e.size,none⟩), ?_, ?_⟩;·simp[execOp,hop,Instr.indexAt,hpk,hyv,asIntOf,hu,hz,hIe.run_size,add_plain]
      refine⟨.ptr,_,⟨rfl,g,_,hg,rfl,hk,b,_,r.e,hb, ?_,rfl⟩,rfl⟩;exact Jaq.snoc hp ⟨_,r.e,0,rfl,by omega,⟨rfl,rfl⟩,by omega⟩
     cases he
    cases he
   cases he
  cases he
 cases he
def Jrg (T:Tab) (t:Nat) (s i:J8e):Option (List Prop×J8e):=
 match i with
 | .v (.int k) i=>let i:=IK.toInt k i
  match T.ty t,s with
  | some (.arr n e),.v t' x=>if t'= .arr n e then match K2f t' x [.idx i.toNat]with
    | .v t2 y=>some ([0<=i/\i<(n:Int)],.v t2 y)
    |_=>none
   else none
  |some .str,.v .str x=>some ([0<=i/\i<(List.length x:Int)],.v (.int .u8) (List.getD x i.toNat 0))
  |_,_=>none
 |_=>none
theorem Jpp(hT:J9a P T)(hop:o.op= .index t x y)(he:Jrg T t (J9d st.slots x) (J9d st.slots y)=some (ps,s))(hps:Jb2 ps):VOp P o st s st.heap:=by
 unfold Jrg at he;split at he
 ·rename_i k i hy;dsimp only at he;refine VOp.pure λc G a w hs=> ?_;have hyv:=J8s hs y;rw[hy]at hyv;have hyv:=Jgf hyv;have hv:=J8s hs x;generalize hI:IK.toInt k i=z at*
  split at he
  ·rename_i n e t' q hty hx;obtain⟨te,by_,hu,hIe⟩:=Jyj hT hty w;split at he
   ·rename_i hc;subst hc;split at he;·rename_i t2 yy hq;cases he;obtain⟨hz,_⟩:=hps;rw[hx]at hv;obtain⟨tt,cs,⟨rfl,hrep⟩,hpk⟩:=hv;have hpk:a.eval x= .agg cs.toArray:=hpk;have hp:Jaq (.arr n e) [.idx z.toNat] (z.toNat*e.size) e:=⟨n,e,0,rfl,by omega,⟨rfl,rfl⟩,by omega⟩;have h1:=Jt3 (G:=G) hrep hp;rw[hq]at h1;have hle:=Jaq.le hp;have hrun:=hIe.run_part (cs:=cs.toArray) (o:=z.toNat*e.size) (by simp[J92.len _ hrep];exact hle) w;refine⟨_, ?_,J9e.of h1⟩;simp[execOp,hop,Instr.index,hpk,hyv,asIntOf,hu,hz,hIe.run_size,hrun]
    cases he
   cases he
  ·rename_i q hty hx;cases he;obtain⟨hz,_⟩:=hps;rw[hx]at hv;have hv:=Jlw hv;obtain⟨by_,hg⟩:=Tab.ty_get hty;obtain⟨d,hd,hD⟩:=(hT _ _ _ hg).run_under w;simp only[Ja9]at hD;subst hD;have hlt:z.toNat<List.length q:=(by omega);have hget:List.getD q z.toNat 0=q[z.toNat]:=(by rw[List.getD_eq_getElem?_getD,List.getElem?_eq_getElem hlt];rfl);have hb:(⟨List.toArray q⟩:ByteArray)[z.toNat]? =some q[z.toNat]:=(by have hsz:z.toNat<(⟨List.toArray q⟩:ByteArray).size:=(by simpa[ByteArray.size]using hlt);exact getElem?_pos (⟨List.toArray q⟩:ByteArray) z.toNat hsz);refine⟨.int .u8 (UInt8.toNat q[z.toNat]:Nat), ?_, ?_⟩;·simp[execOp,hop,Instr.index,hv,hyv,asIntOf,hd,hz.1,hb]
   rw[hget];exact Jaf .u8 q[z.toNat]
  cases he
 cases he
end Go.Ax

namespace Go.Ax
theorem Jou(h:o+s<=cs.length):splice cs o ((cs.drop o).take s)=cs:=by unfold splice;rw[List.length_take,List.length_drop,Nat.min_eq_left (by omega),List.append_assoc,<-List.drop_drop,List.take_append_drop,List.take_append_drop]
def Jxm:Ty->List Step->Option (Nat×Ty)
 |t,[]=>some (0,t)
 |t,.fld k::p=>match t.field k with
  |some (o1,t1)=>match Jxm t1 p with|some (o2,t2)=>some (o1+o2,t2)|none=>none
  |none=>none
 |_,_=>none
theorem Js3:∀{p:List Step} {t:Ty} {o:Nat} {t':Ty},Jxm t p=some (o,t')->Jaq t p o t'
 |[],t,o,t',h=>by simp only[Jxm,Option.some.injEq,Prod.mk.injEq]at h;exact⟨h.1.symm,h.2.symm⟩
 | .fld k::p,t,o,t',h=>by
  simp only[Jxm]at h;split at h
  ·rename_i o1 t1 h1;split at h;·rename_i o2 t2 h2;cases h;exact⟨o1,t1,o2,h1,Js3 h2,rfl⟩
   cases h
  cases h
 | .idx i::p,t,o,t',h=>by simp[Jxm]at h
theorem Jy3 G g:Ext G (G++[g]):=Ext.snoc G g
theorem HRG.freshRow(hh:HRG c G h w) e:HRG c (G++[(⟨.row,none,e,0,0⟩:GE)]) (h++[.row e [] true]) w/\J9c w w (okB c G h w) (okB c (G++[(⟨.row,none,e,0,0⟩:GE)]) (h++[.row e [] true]) w):=hh.fresh (o:=.row e [] true) (g:=⟨.row,none,e,0,0⟩) rfl (λok'=>⟨rfl,rfl,rfl,Nat.le_refl _,.inl ⟨rfl,rfl⟩⟩)
theorem K5l e (hl:G.length=l):J90 (G++[(⟨.row,none,e,0,0⟩:GE)]) w ok (.own l []) (.slice e) [.slice none 0 0]:=by refine⟨⟨.row,none,e,0,0⟩,_, ?_,rfl,.inl ⟨rfl,rfl,rfl,rfl⟩⟩;rw[<-hl];simp
theorem J8v.promote e:J8v m .nil h (.own h.length []) (h++[.row e [] true]):=by intro c G w v hh hv;obtain⟨h1,k⟩:=hh.freshRow e;refine⟨_,h1, ?_,λl g _ hg=>Jy3 G _ _ _ hg⟩;obtain⟨t,cs,⟨⟨e',rfl⟩,rfl⟩,rfl⟩:=hv;exact⟨.slice e,_,K5l e hh.len,rfl⟩
def promoteObj(h:List J8g)(l:Nat)(p:List Step):Option (List J8g):=
 match h[l]? with
 |some (.box t s true)=>match s.get p,Jxm t p with
  | .nil,some (_,.slice e)=>some ((h++[J8g.row e [] true]).set l (.box t (s.set p (.own h.length [])) true))
  |_,_=>none
 |_=>none
theorem HRG.promoteObj(hh:HRG c G h w)(hp:promoteObj h l p=some h'):∃G',HRG c G' h' w/\Ext G G'/\J9c w w (okB c G h w) (okB c G' h' w):=by
 unfold Ax.promoteObj at hp;split at hp
 ·rename_i t s hl;split at hp
  ·rename_i o e hn ho;injection hp with hp;subst hp;obtain⟨h1,k⟩:=hh.freshRow e;have hpo:=Js3 ho;have hll:l<h.length:=(by grind);have hl1:(h++[J8g.row e [] true])[l]? =some (.box t s true):=(by rw[List.getElem?_append_left hll];exact hl);have hgl:G[l]? =some (G[l]'(by rw[hh.len];exact hll)):=List.getElem?_eq_getElem _;generalize G[l]'(by rw[hh.len];exact hll)=g at hgl;have hg1:(G++[(⟨.row,none,e,0,0⟩:GE)])[l]? =some g:=Jy3 G _ _ _ hgl;obtain⟨hk,hty,b,cs,U,hb,hheap,hrel⟩:=h1.objs l _ g hl1 hg1;have hle:=Jaq.le hpo;have hlen:=J90.len _ hrel;have hget:=J8e.get_ok hrel hpo;rw[hn]at hget;have hnew:=K5l (w:=w) (ok:=okB c (G++[(⟨.row,none,e,0,0⟩:GE)]) (h++[.row e [] true]) w) e hh.len;rw[<-hget.2]at hnew;have hset:=J8e.set_ok hrel hpo hnew;rw[Jou (by rw[hlen];exact hle)]at hset;obtain⟨h2,hok,k2⟩:=h1.wrote (w':=w) (b:=b) (cs:=cs) (U:=U) (o':=.box t (s.set p (.own h.length [])) true) hl1 hg1 rfl hb ⟨hheap,λ_ _=>rfl,rfl,rfl,rfl,rfl⟩ rfl rfl (λ_=>⟨hk,hty,b,cs,U,hb,hheap,hset⟩)
   refine⟨_,h2,Jy3 G _, ?_⟩;rw[hok];exact k
  cases hp
 cases hp
theorem Jcw.promoteObj(hp:Ax.promoteObj st.heap l p=some h'):Jcw st {st with heap:=h'}:=by rintro c a w ⟨G,hr⟩;obtain⟨G',h1,hx,k⟩:=hr.toHRG.promoteObj hp;exact⟨G',hr.on h1 hx k⟩
theorem Jcw.freeze ids:Jcw st {st with heap:=freezeIds st.heap ids}:=by rintro c a w ⟨G,hr⟩;obtain⟨h1,k⟩:=hr.toHRG.freezeIds ids;exact⟨G,hr.on h1 (Ext.refl G) k⟩
theorem J8v.freeze ids:J8v m r h r (freezeIds h ids):=by intro c G w v hh hv;obtain⟨h1,k⟩:=hh.freezeIds ids;exact⟨G,h1,J9e.mono (Ext.refl G) k _ hv,λl g _ hg=>hg⟩
theorem J8v.promoteObj(hp:Ax.promoteObj h l p=some h'):J8v m r h r h':=by intro c G w v hh hv;obtain⟨G',h1,hx,k⟩:=hh.promoteObj hp;exact⟨G',h1,J9e.mono hx k _ hv,λl g _ hg=>hx _ _ hg⟩
def valObj(h:List J8g)(l:Nat)(p:List Step):Option (List J8g):=
 match h[l]? with
 | some (.box t s true)=>match Jxm t p with
  |some (_,t')=>match Jad h t' (s.get p),J9y (s.get p).ids l with
   |some x,false=>some ((freezeIds h (s.get p).ids).set l (.box t (s.set p (.v t' x)) true))
   |_,_=>none
  |none=>none
 |_=>none
theorem HRG.valObj(hh:HRG c G h w)(hp:valObj h l p=some h'):HRG c G h' w/\J9c w w (okB c G h w) (okB c G h' w):=by
 unfold Ax.valObj at hp;split at hp
 ·rename_i t s hl;split at hp
  ·rename_i o t' ho;split at hp
   ·rename_i x hx hn;cases hp;obtain⟨h1,k⟩:=hh.freezeIds (s.get p).ids;have hpo:=Js3 ho;have hll:l<h.length:=(by grind);have hl1:(Ax.freezeIds h (s.get p).ids)[l]? =some (.box t s true):=(by rw[Jc2,hl];simp[hn]);have hgl:G[l]? =some (G[l]'(by rw[hh.len];exact hll)):=List.getElem?_eq_getElem _;generalize G[l]'(by rw[hh.len];exact hll)=g at hgl;obtain⟨hk,hty,b,cs,U,hb,hheap,hrel⟩:=hh.objs l _ g hl hgl;obtain⟨_,_,b2,cs2,U2,hb2,hheap2,hrel2⟩:=h1.objs l _ g hl1 hgl;rw[hb]at hb2;injection hb2 with hb2;subst hb2;rw[hheap]at hheap2;injection hheap2 with hheap2;injection hheap2 with e1 e2;subst e1;have hle:=Jaq.le hpo;have hlen:=J90.len _ hrel;have hget:=J8e.get_ok hrel hpo;have hrep:=(Jgm hh t' (s.get p) (λ_ h=>h) hx hget).1;have hnew:J90 G w (okB c G (Ax.freezeIds h (s.get p).ids) w) (.v t' x) t' ((cs.toList.drop o).take t'.size):=⟨rfl,hrep⟩;have hset:=J8e.set_ok hrel2 hpo hnew;rw[Jou (by rw[hlen];exact hle)]at hset;obtain⟨h2,hok,k2⟩:=h1.wrote (w':=w) (b:=b) (cs:=cs) (U:=U) (o':=.box t (s.set p (.v t' x)) true) hl1 hgl rfl hb ⟨hheap,λ_ _=>rfl,rfl,rfl,rfl,rfl⟩ rfl rfl (λ_=>⟨hk,hty,b,cs,U,hb,hheap,hset⟩)
    grind
   cases hp
  cases hp
 cases hp
theorem Jcw.valObj(hp:Ax.valObj st.heap l p=some h'):Jcw st {st with heap:=h'}:=by rintro c a w ⟨G,hr⟩;obtain⟨h1,k⟩:=hr.toHRG.valObj hp;exact⟨G,hr.on h1 (Ext.refl G) k⟩
theorem J8v.valObj(hp:Ax.valObj h l p=some h'):J8v m r h r h':=by intro c G w v hh hv;obtain⟨h1,k⟩:=hh.valObj hp;exact⟨G,h1,J9e.mono (Ext.refl G) k _ hv,λl g _ hg=>hg⟩
def killIds:List J8g->List Nat->List J8g
 |h,[]=>h
 |h,l::r=>killIds (h.set l .dead) r
theorem HRG.killIds:∀{ids:List Nat} {h:List J8g},HRG c G h w->HRG c G (Ax.killIds h ids) w/\J9c w w (okB c G h w) (okB c G (Ax.killIds h ids) w)
 |[],h,hh=>⟨hh,λ_ h=>h,λ_ _ _ _ h=>h⟩
 |l::r,h,hh=>by
  obtain⟨h1,k1⟩:=hh.shrink (h':=h.set l .dead) (by simp) λk x x' hx hx'=>by grind
  obtain⟨h2,k2⟩:=HRG.killIds (ids:=r) h1;exact⟨h2,λb hb=>k2.sub b (k1.sub b hb),λb o v hb hv=>k2.cell b o v (k1.sub b hb) (k1.cell b o v hb hv)⟩
theorem Jcw.kill ids:Jcw st {st with heap:=killIds st.heap ids}:=by rintro c a w ⟨G,hr⟩;obtain⟨h1,k⟩:=hr.toHRG.killIds (ids:=ids);exact⟨G,hr.on h1 (Ext.refl G) k⟩
theorem J8v.kill ids:J8v m r h r (killIds h ids):=by intro c G w v hh hv;obtain⟨h1,k⟩:=hh.killIds (ids:=ids);exact⟨G,h1,J9e.mono (Ext.refl G) k _ hv,λl g _ hg=>hg⟩
def Jf5(n l k:Nat):Nat:=bif Nat.beq k l then n else k
def moveObj(h:List J8g)(l:Nat):Option (List J8g):=
 match J8m h l with
 | .row e xs lv=>some ((h.map (J8g.ren (Jf5 h.length l))).set l .dead++[.row e xs lv])
 |_=>none
def Jjm(n l:Nat)(ss:List (Nat×J8e)):List (Nat×J8e):=ss.map λp=>(p.1,p.2.ren (Jf5 n l))
theorem Jup n l:∀(ss:List (Nat×J8e)) (j:Nat),look (Jjm n l ss) j=(look ss j).ren (Jf5 n l)
 |[],j=>rfl
 |p::r,j=>by show(bif Nat.beq p.1 j then p.2.ren (Jf5 n l)else look (Jjm n l r) j)=_;rw[Jup n l r j];show _=(bif Nat.beq p.1 j then p.2 else look r j).ren (Jf5 n l);cases Nat.beq p.1 j<;>rfl
theorem Jiq n l:Jf5 n l l=n:=by unfold Jf5;rw[Nat.beq_refl];rfl
theorem Jo0(h:k≠l):Jf5 n l k=k:=by unfold Jf5;cases hb:Nat.beq k l with|true=>exact absurd (Nat.eq_of_beq_eq_true hb) h|false=>rfl
theorem Jkz(hn:G.length=n)(hg:G[l]? =some g0) ids:Jgg G (G++[g0]) (Jf5 n l) ids:=by
 intro k _ g hk;by_cases e:k=l;·subst e;rw[Jiq,List.getElem?_append_right (by omega),hn,Nat.sub_self,<-hk,hg];rfl
 rw[Jo0 e,List.getElem?_append_left (List.getElem?_eq_some_iff.1 hk).1];exact hk
theorem HRG.moveObj(hh:HRG c G h w)(hm:Ax.moveObj h l=some h'):∃g0,G[l]? =some g0/\HRG c (G++[g0]) h' w/\okB c (G++[g0]) h' w=okB c G h w:=by
 unfold Ax.moveObj at hm;split at hm
 ·rename_i e xs lv ho;cases hm;have hl:h[l]? =some (.row e xs lv):=by unfold J8m at ho;grind
  have hlt:l<h.length:=(List.getElem?_eq_some_iff.1 hl).1;have hlen:=hh.len;obtain⟨g0,hg0⟩:∃g0,G[l]? =some g0:=⟨_,List.getElem?_eq_getElem (by omega)⟩;refine⟨g0,hg0, ?_⟩;generalize hf:Jf5 h.length l=f;have T:∀ids,Jgg G (G++[g0]) f ids:=λids=>hf▸Jkz hlen hg0 ids;have from_:∀(k:Nat) (o':J8g) (g':GE),((h.map (J8g.ren f)).set l .dead++[.row e xs lv])[k]? =some o'->(G++[g0])[k]? =some g'-> o'= .dead\/∃k0 o0,h[k0]? =some o0/\G[k0]? =some g'/\o'=o0.ren f/\k=f k0:=by
   intro k o' g' h1 h2;rcases Nat.lt_trichotomy k h.length with q|q|q
   ·rw[List.getElem?_append_left (by simpa using q)]at h1;rw[List.getElem?_append_left (by omega)]at h2;rw[List.getElem?_set]at h1;split at h1;·grind
    rename_i q2;rw[List.getElem?_map]at h1;cases hx:h[k]? with
    |none=>rw[hx]at h1;cases h1
    |some o0=>rw[hx]at h1;injection h1 with h1;refine .inr ⟨k,o0,hx,h2,h1.symm, ?_⟩;rw[<-hf,Jo0 (Ne.symm q2)]
   ·subst q;rw[List.getElem?_append_right (by simp)]at h1;rw[List.getElem?_append_right (by omega),hlen]at h2;simp at h1 h2;refine .inr ⟨l,_,hl,by rw[hg0,h2],by rw[<-h1];rfl, ?_⟩;rw[<-hf,Jiq]
   rw[List.getElem?_eq_none (by simp;omega)]at h1;cases h1
  have to_:∀(k0:Nat) (o0:J8g) (g:GE),h[k0]? =some o0->G[k0]? =some g->((h.map (J8g.ren f)).set l .dead++[.row e xs lv])[f k0]? =some (o0.ren f)/\(G++[g0])[f k0]? =some g:=by
   intro k0 o0 g h1 h2;refine⟨?_,T [k0] k0 (by simp) g h2⟩;by_cases q:k0=l;·subst q;have e1:f k0=h.length:=(by rw[<-hf,Jiq]);rw[e1,List.getElem?_append_right (by simp)];rw[hl]at h1;injection h1 with h1;subst h1;simp;rfl
   have e1:f k0=k0:=(by rw[<-hf,Jo0 q]);grind
  have own:∀b,Jge (G++[g0]) ((h.map (J8g.ren f)).set l .dead++[.row e xs lv]) b↔Jge G h b:=by
   intro b;constructor
   ·rintro⟨k,o',g',h1,h2,h3,h4⟩;rcases from_ k o' g' h1 h2 with rfl|⟨k0,o0,q1,q2,rfl,q3⟩;·cases h3
    exact⟨k0,o0,g',q1,q2,by rw[J8g.live_ren]at h3;exact h3,h4⟩
   rintro⟨k,o,g,h1,h2,h3,h4⟩;obtain⟨q1,q2⟩:=to_ k o g h1 h2;exact⟨f k,_,g,q1,q2,by rw[J8g.live_ren];exact h3,h4⟩
  have hok:okB c (G++[g0]) ((h.map (J8g.ren f)).set l .dead++[.row e xs lv]) w=okB c G h w:=by funext b;unfold okB;rw[own b]
  refine⟨?_,hok⟩;refine {EA:=hh.EA,len:=by simp[hlen],inj:= ?_,inE:= ?_,inL:=λb hb=>hh.inL b ((own b).1 hb),frame:=hh.frame,big:=hh.big,os:=hh.os,tape:=hh.tape,output:=hh.output,objs:= ?_}
  ·intro k1 k2 g1 g2 o1 o2 b e1 e2 e3 e4 d1 d2 b1 b2;rcases from_ k1 o1 g1 e3 e1 with rfl|⟨j1,p1,q1,q2,rfl,q3⟩;·cases d1
   rcases from_ k2 o2 g2 e4 e2 with rfl|⟨j2,p2,r1,r2,rfl,r3⟩;·cases d2
   rw[J8g.isDead_ren]at d1 d2;rw[q3,r3,hh.inj j1 j2 g1 g2 p1 p2 b q2 r2 q1 r1 d1 d2 b1 b2]
  ·intro k o g b e1 e2 d1 b1;rcases from_ k o g e1 e2 with rfl|⟨j1,p1,q1,q2,rfl,q3⟩;·cases d1
   rw[J8g.isDead_ren]at d1;exact hh.inE j1 p1 g b q1 q2 d1 b1
  intro k o g e1 e2;rcases from_ k o g e1 e2 with rfl|⟨j1,p1,q1,q2,rfl,q3⟩;·trivial
  rw[hok];exact Jet.ren p1 (T _) (hh.objs j1 p1 g q1 q2)
 cases hm
theorem Jcw.move(hm:moveObj st.heap l=some h'):Jcw st {st with slots:=Jjm st.heap.length l st.slots,heap:=h'}:=by rintro c a w ⟨G,hr⟩;obtain⟨g0,hg,h1,hok⟩:=hr.toHRG.moveObj hm;refine⟨G++[g0],h1,λj=> ?_,λk g hk=>Ext.snoc _ _ k g (hr.ent k g hk),hr.em,hr.sz,hr.nodef⟩;rw[Jup,hok];exact J9e.ren _ (Jkz hr.len hg _) (hr.slots j)
theorem J8v.move(hm:moveObj h l=some h'):J8v m r h (r.ren (Jf5 h.length l)) h':=by intro c G w v hh hv;obtain⟨g0,hg,h1,hok⟩:=hh.moveObj hm;exact⟨G++[g0],h1,by rw[hok];exact J9e.ren _ (Jkz hh.len hg _) hv,λk g _ hk=>Ext.snoc _ _ k g hk⟩
end Go.Ax

namespace Go.Ax
variable {P : Program} {T : Tab}
def un(op:UnOp)(s:J8e):Option J8e:=
 match op,s with
 | .not,.v .bool b=>some (.v .bool (!b))
 | .neg,.v (.int .i64) n=>some (.v (.int .i64) (w64 (0 - n)))
 | .xor,.v (.int .u8) n=>some (.v (.int .u8) (~~~n))
 | .xor,.v (.int .u32) n=>some (.v (.int .u32) (~~~n))
 | .xor,.v (.int .u64) n=>some (.v (.int .u64) (~~~n))
 |_,_=>none
theorem un_ok(hop:o.op= .unOp op t x)(he:un op (J9d st.slots x)=some s):VOp P o st s st.heap:=by
 refine VOp.pure λc G a w hs=> ?_;have hv:=J8s hs x;unfold un at he;split at he<;>first|(cases he;done)|(injection he with he;subst he;rename_i n hx;rw[hx]at hv)
 ·exact⟨_,by simp[execOp,hop,Jmp hv,Op.unary],Jcg _⟩
 ·exact⟨_,by simp[execOp,hop,Jgf hv,Op.unary,Op.intArith];rfl,Jaf .i64 _⟩
 ·have hv:=Jgf hv;have e:IntKind.u8.wrap ((BitVec.ofInt 8 (255:Int)^^^BitVec.ofInt 8 (UInt8.toNat n:Int)).toNat)=((~~~n:UInt8).toNat:Int):=by rw[<-K7k (~~~n)];congr 2;rw[Jo6,show BitVec.ofInt 8 (255:Int)=BitVec.allOnes 8 by decide,BitVec.allOnes_xor];rfl
  refine⟨.int .u8 (IntKind.u8.wrap ((BitVec.ofInt 8 (255:Int)^^^BitVec.ofInt 8 (UInt8.toNat n:Int)).toNat)), ?_,by rw[e];exact Jaf .u8 _⟩;simp only[execOp,hop,hv];rfl
 ·have hv:=Jgf hv;have e:IntKind.u32.wrap ((BitVec.ofInt 32 (4294967295:Int)^^^BitVec.ofInt 32 (UInt32.toNat n:Int)).toNat)=((~~~n:UInt32).toNat:Int):=by rw[<-wrap32 (~~~n)];congr 2;rw[ofInt32,show BitVec.ofInt 32 (4294967295:Int)=BitVec.allOnes 32 by decide,BitVec.allOnes_xor];rfl
  refine⟨.int .u32 (IntKind.u32.wrap ((BitVec.ofInt 32 (4294967295:Int)^^^BitVec.ofInt 32 (UInt32.toNat n:Int)).toNat)), ?_,by rw[e];exact Jaf .u32 _⟩;simp only[execOp,hop,hv];rfl
 have hv:=Jgf hv;have e:IntKind.u64.wrap ((BitVec.ofInt 64 (18446744073709551615:Int)^^^BitVec.ofInt 64 (UInt64.toNat n:Int)).toNat)=((~~~n:UInt64).toNat:Int):=by rw[<-wrap64 (~~~n)];congr 2;rw[Jir,show BitVec.ofInt 64 (18446744073709551615:Int)=BitVec.allOnes 64 by decide,BitVec.allOnes_xor];rfl
 refine⟨.int .u64 (IntKind.u64.wrap ((BitVec.ofInt 64 (18446744073709551615:Int)^^^BitVec.ofInt 64 (UInt64.toNat n:Int)).toNat)), ?_,by rw[e];exact Jaf .u64 _⟩;simp only[execOp,hop,hv];rfl
def Kde:(k k':IntKind)->IK k->Option J8e
 | .i64,.i64,x=>some (.v (.int .i64) (w64 x))
 | .i64,.u8,x=>some (.v (.int .u8) (UInt8.ofNat (Int.toNat (x%256))))
 | .i64,.u32,x=>some (.v (.int .u32) (UInt32.ofNat (Int.toNat (x%4294967296))))
 | .i64,.u64,x=>some (.v (.int .u64) (UInt64.ofNat (Int.toNat (x%18446744073709551616))))
 | .u8,.i64,x=>some (.v (.int .i64) (UInt8.toNat x:Int))
 | .u8,.u8,x=>some (.v (.int .u8) x)
 | .u8,.u32,x=>some (.v (.int .u32) (UInt32.ofNat (UInt8.toNat x)))
 | .u8,.u64,x=>some (.v (.int .u64) (UInt64.ofNat (UInt8.toNat x)))
 | .u32,.u8,x=>some (.v (.int .u8) (UInt8.ofNat (UInt32.toNat x)))
 | .u32,.i64,x=>some (.v (.int .i64) (UInt32.toNat x:Int))
 | .u32,.u32,x=>some (.v (.int .u32) x)
 | .u64,.u8,x=>some (.v (.int .u8) (UInt8.ofNat (UInt64.toNat x)))
 | .u64,.i64,x=>some (.v (.int .i64) (w64 (UInt64.toNat x:Int)))
 | .u64,.u64,x=>some (.v (.int .u64) x)
 |_,_,_=>none
theorem K8d(h:Kde k k' x=some s):J9e G w ok s (.int k' (k'.wrap (IK.toInt k x))):=by
 unfold Kde at h;split at h<;>first|(cases h;done)|(injection h with h;subst h)
 ·exact Jaf .i64 _
 ·rename_i x;have:IntKind.u8.wrap x=((UInt8.ofNat (Int.toNat (x%256))).toNat:Int):=by rw[IntKind.wrap_u8',UInt8.toNat_ofNat'];omega
  show J9e _ _ _ _ (.int .u8 (IntKind.u8.wrap x));rw[this];exact Jaf .u8 _
 ·rename_i x;have:IntKind.u32.wrap x=((UInt32.ofNat (Int.toNat (x%4294967296))).toNat:Int):=by rw[IntKind.wrap_u32',UInt32.toNat_ofNat'];omega
  show J9e _ _ _ _ (.int .u32 (IntKind.u32.wrap x));rw[this];exact Jaf .u32 _
 ·rename_i x;have:IntKind.u64.wrap x=((UInt64.ofNat (Int.toNat (x%18446744073709551616))).toNat:Int):=by rw[Jiz,UInt64.toNat_ofNat'];omega
  show J9e _ _ _ _ (.int .u64 (IntKind.u64.wrap x));rw[this];exact Jaf .u64 _
 ·rename_i x;have hx:=UInt8.toNat_lt x;have:IntKind.i64.wrap (UInt8.toNat x:Int)=(UInt8.toNat x:Int):=J9n (by omega) (by omega);show J9e _ _ _ _ (.int .i64 (IntKind.i64.wrap (UInt8.toNat x:Int)));rw[this];exact Jaf .i64 _
 ·rename_i x;show J9e _ _ _ _ (.int .u8 (IntKind.u8.wrap (UInt8.toNat x:Int)));rw[K7k];exact Jaf .u8 _
 ·rename_i x;have hx:=UInt8.toNat_lt x;have:IntKind.u32.wrap (UInt8.toNat x:Int)=((UInt32.ofNat (UInt8.toNat x)).toNat:Int):=by rw[IntKind.wrap_u32',UInt32.toNat_ofNat'];omega
  show J9e _ _ _ _ (.int .u32 (IntKind.u32.wrap (UInt8.toNat x:Int)));rw[this];exact Jaf .u32 _
 ·rename_i x;have hx:=UInt8.toNat_lt x;have:IntKind.u64.wrap (UInt8.toNat x:Int)=((UInt64.ofNat (UInt8.toNat x)).toNat:Int):=by rw[Jiz,UInt64.toNat_ofNat'];omega
  show J9e _ _ _ _ (.int .u64 (IntKind.u64.wrap (UInt8.toNat x:Int)));rw[this];exact Jaf .u64 _
 ·rename_i x;have hx:=UInt32.toNat_lt x;have:IntKind.u8.wrap (UInt32.toNat x:Int)=((UInt8.ofNat (UInt32.toNat x)).toNat:Int):=by rw[IntKind.wrap_u8',UInt8.toNat_ofNat'];omega
  show J9e _ _ _ _ (.int .u8 (IntKind.u8.wrap (UInt32.toNat x:Int)));rw[this];exact Jaf .u8 _
 ·rename_i x;have hx:=UInt32.toNat_lt x;have:IntKind.i64.wrap (UInt32.toNat x:Int)=(UInt32.toNat x:Int):=J9n (by omega) (by omega);show J9e _ _ _ _ (.int .i64 (IntKind.i64.wrap (UInt32.toNat x:Int)));rw[this];exact Jaf .i64 _
 ·rename_i x;show J9e _ _ _ _ (.int .u32 (IntKind.u32.wrap (UInt32.toNat x:Int)));rw[wrap32];exact Jaf .u32 _
 ·rename_i x;have hx:=UInt64.toNat_lt x;have:IntKind.u8.wrap (UInt64.toNat x:Int)=((UInt8.ofNat (UInt64.toNat x)).toNat:Int):=by rw[IntKind.wrap_u8',UInt8.toNat_ofNat'];omega
  show J9e _ _ _ _ (.int .u8 (IntKind.u8.wrap (UInt64.toNat x:Int)));rw[this];exact Jaf .u8 _
 ·exact Jaf .i64 _
 rename_i x;show J9e _ _ _ _ (.int .u64 (IntKind.u64.wrap (UInt64.toNat x:Int)));rw[wrap64];exact Jaf .u64 _
theorem HRG.junk(hh:HRG c G h w)(hold:∀b,b<w.heap.size->w'.heap[b]? =w.heap[b]?)(hsz:w.heap.size<=w'.heap.size)(h1:w'.os=w.os)(h2:w'.tape=w.tape)(h3:w'.output=w.output):HRG c G h w'/\J9c w w' (okB c G h w) (okB c G h w')/\∀b,w.heap.size<=b->b<w'.heap.size->okB c G h w' b:=by
 have k:J9c w w' (okB c G h w) (okB c G h w'):=⟨λb hb=>⟨by have:=hb.1;omega,hb.2.1,hb.2.2⟩,λb o v hb hv=>by rw[cell?_of_heap (hold b hb.1)];exact hv⟩;refine⟨?_,k,λb hb1 hb2=>⟨hb2,λh=> ?_, ?_⟩⟩
 ·refine {EA:=hh.EA,len:=hh.len,inj:=hh.inj,inE:=λl o g b a1 a2 a3 a4=> ?_,inL:=hh.inL,frame:=λb x y=> ?_,big:=Nat.le_trans hh.big hsz,os:=h1.trans hh.os,tape:=h2.trans hh.tape,output:=h3.trans hh.output,objs:=λl o g a1 a2=> ?_};·obtain⟨x,y⟩:=hh.inE l o g b a1 a2 a3 a4;exact⟨by omega,y⟩
  ·rw[hold b (Nat.lt_of_lt_of_le x hh.big)];exact hh.frame b x y
  cases hd:o.isDead with
  |true=>cases o<;>simp[J8g.isDead]at hd;trivial
  |false=>exact Jet.mono (Ext.refl G) k (λb hb=>hold b (hh.inE l o g b a1 a2 hd hb).1) o (hh.objs l o g a1 a2)
 ·have:=hh.big;omega
 rintro⟨l,o,g,e1,e2,e3,e4⟩;have:=(hh.inE l o g b e1 e2 (Jfu e3) e4).1;omega
def Jy9:J8e->Nat->Option J8e
 | .tup a _,0=>some a
 | .tup _ r,k+1=>Jy9 r k
 |_,_=>none
theorem K0b:∀{s:J8e} {k:Nat} {u:J8e} {vs:List Value},Jy9 s k=some u->Jkg G w ok s vs->∃v,vs[k]? =some v/\J9e G w ok u v
 | .tup a r,0,u,_,h,hl=>by obtain⟨v,vs',rfl,⟨t,cs,h1,rfl⟩,_⟩:=hl;cases h;exact⟨_,rfl,J9e.of h1⟩
 | .tup a r,k+1,u,_,h,hl=>by obtain⟨v,vs',rfl,_,h3⟩:=hl;have h':Jy9 r k=some u:=h;obtain⟨v',e1,e2⟩:=K0b h' h3;grind
 | .undef,_,_,_,h,_=>by cases h
 | .v _ _,_,_,_,h,_=>by cases h
 | .nil,_,_,_,h,_=>by cases h
 | .nilp,_,_,_,h,_=>by cases h
 | .own _ _,_,_,_,h,_=>by cases h
 | .ptr _ _,_,_,_,h,_=>by cases h
 | .ref _ _,_,_,_,h,_=>by cases h
 | .fn _ _,_,_,_,h,_=>by cases h
 | .mp _,_,_,_,h,_=>by cases h
 | .anyb,_,_,_,h,_=>by cases h
 | .node _ _,_,_,_,h,_=>by cases h
 | .tnil,_,_,_,h,_=>by cases h
theorem Jpt(hop:o.op= .extract x k)(he:Jy9 (J9d st.slots x) k=some s):VOp P o st s st.heap:=by
 refine VOp.pure λc G a w hs=> ?_;have hv:=J8s hs x;generalize J9d st.slots x=u at*
 cases u with
 |tup a r=>obtain⟨vs,hvs,hl⟩:=hv;obtain⟨v,h1,h2⟩:=K0b he hl;refine⟨v, ?_,h2⟩;simp[execOp,hop,hvs,Instr.extract,h1]
 |_=>simp[Jy9]at he
def tups:List J8e->J8e
 |[]=>.tnil
 |s::r=>.tup s (tups r)
def K9f:J8e->Bool
 | .tup _ _=>true
 | .tnil=>true
 |_=>false
theorem K7c(hs:K9f s=false)(h:J9e G w ok s v):∃t cs,J90 G w ok s t cs/\v=pack t cs:=by
 cases s<;>first
   |exact h
   |(cases hs;done)
   |(cases v with|agg cs=>exact⟨.arr cs.size .bool,cs.toList,by simp[J90,Ty.size],by simp[pack,Ty.isAgg]⟩|_=>exact⟨.bool,[_],rfl,rfl⟩)
theorem Jt1:∀{l:List J8e} {vs:List Value},l.all (λs=> !K9f s)=true->ARel G w ok l vs->Jkg G w ok (tups l) vs
 |[],vs,_,h=>List.eq_nil_of_length_eq_zero h.1.symm
 |s::r,[],_,h=>by have:=h.1;simp at this
 |s::r,v::vs,hn,h=>by simp only[List.all_cons,Bool.and_eq_true,Bool.not_eq_true']at hn;exact⟨v,vs,rfl,K7c hn.1 (h.2 0 s v rfl rfl),Jt1 hn.2 ⟨by have:=h.1;simpa using this,λi s' v' h1 h2=>h.2 (i+1) s' v' (by simpa using h1) (by simpa using h2)⟩⟩
def Jhk(ss:List (Nat×J8e))(f:Fn)(first cap:Array Operand):Option J8e:=
 match f,first.toList with
 | .func f,[]=>if(cap.toList.map (J9d ss)).all (λs=> !K9f s)then some (.fn f (tups (cap.toList.map (J9d ss))))else none
 |_,_=>none
theorem Jns(hop:o.op= .makeFunc f first cap)(he:Jhk st.slots f first cap=some s):VOp P o st s st.heap:=by
 refine VOp.pure λc G a w hs=> ?_;unfold Jhk at he;split at he
 ·rename_i f hfirst;have hf:first= #[]:=by apply Array.toList_inj.1;rw[hfirst]
  subst hf;split at he
  ·rename_i hall;cases he;have:ARel G w (okB c G st.heap w) (cap.toList.map (J9d st.slots)) (cap.toList.map a.eval):=by
    refine⟨by simp,λi s v h1 h2=> ?_⟩;rw[List.getElem?_map]at h1 h2;cases hx:cap.toList[i]? with
    |none=>rw[hx]at h1;cases h1
    |some x=>rw[hx]at h1 h2;injection h1 with h1;injection h2 with h2;subst h1;subst h2;exact J8s hs x
   refine⟨.func (.func f) #[] (cap.map a.eval),by simp[execOp,hop,Instr.makeFunc],⟨.fn,_,⟨rfl,cap.toList.map a.eval,rfl,Jt1 hall this⟩, ?_⟩⟩;congr 1;apply Array.toList_inj.1;simp
  cases he
 cases he
def Kdr(T:Tab)(h:List J8g)(t:Nat)(s:J8e):Option (J8e×List J8g):=
 match T.ty t with
 |none=>none
 |some ty=>if fits h s ty then some (.ptr h.length [],h++[.box ty s true])else none
theorem K8v(hT:J9a P T)(hop:o.op= .box t x)(he:Kdr T st.heap t (J9d st.slots x)=some (s,h')):VOp P o st s h':=by
 unfold Kdr at he;split at he;·cases he
 rename_i ty hty;split at he;·rename_i hf;cases he;intro c G a w hs;obtain⟨cs,h1,h2,h3⟩:=Jrv hs.toHRG hf (J8s hs x);obtain⟨r1,r2,r3⟩:=K58 hs.toHRG t h1;refine⟨_,_,_,.inl ?_,r1,Ext.snoc _ _,r2,r3 _⟩;have hc:(pack ty cs).cells=cs.toArray:=(by apply Array.toList_inj.1;rw[pack_cells (J90.len _ h1) (J90.cells _ h3 h1)]);simp[execOp,hop,Instr.box,newVar,newRow,h2,hc]
 cases he
def Jhm(s:J8e):Option J8e:=
 match s with
 | .ptr l p=>some (.ptr l p)
 | .ref t x=>some (.ref t x)
 |_=>none
theorem Jja(hop:o.op= .nilCheck x)(he:Jhm (J9d st.slots x)=some s):VOp P o st s st.heap:=by
 refine VOp.pure λc G a w hs=> ?_;have hv:=J8s hs x;unfold Jhm at he;split at he;·rename_i l p hx;cases he;rw[hx]at hv;refine⟨_, ?_,hv⟩;obtain⟨t,cs,⟨rfl,g,u,_,rfl,_,b,o',t',_,_,rfl⟩,hpk⟩:=hv;have hpk:a.eval x= .pointer (some ⟨b,o',none⟩):=hpk;simp[execOp,hop,hpk]
 ·rename_i t y hx;cases he;rw[hx]at hv;refine⟨_, ?_,hv⟩;obtain⟨t,cs,⟨rfl,b,off,cs',rfl,_⟩,hpk⟩:=hv;have hpk:a.eval x= .pointer (some ⟨b,off,none⟩):=hpk;simp[execOp,hop,hpk]
 cases he
def Kdt(T:Tab)(h:List J8g)(t:Nat)(s:J8e):Option J8e:=
 match T.ty t with
 |some .str=>match s with
  | .v .str x=>some (.v (.int .i64) (List.length x:Int))
  |_=>none
 | some (.slice e)=>match s with
  | .v (.slice e') xs=>some (.v (.int .i64) (List.length xs:Int))
  | .nil=>some (.v (.int .i64) (0:Int))
  | .own l p=>match J99 (J8m h l) p with
   |some r=>some (.v (.int .i64) (List.length r.xs:Int))
   |none=>none
  |_=>none
 |some (.arr n e)=>some (.v (.int .i64) (n:Int))
 |_=>none
theorem K8x(hT:J9a P T)(hop:o.op= .call cl)(hc:cl.callee= .builtin .len)(ha:cl.args= #[x])(ht:cl.argTypes[0]? =some t)(he:Kdt T st.heap t (J9d st.slots x)=some s):VOp P o st s st.heap:=by
 refine VOp.pure λc G a w hs=> ?_;have hv:=J8s hs x;have run:∀v,(Builtin.len_ cl.argTypes o.type #[a.eval x]).run P w= .ok v w->(execOp a.eval o).run P w= .ok (.value v) w:=by intro v hr;simp[execOp,hop,resolve,hc,ha,invoke,builtin,hr]
 unfold Kdt at he;split at he
 ·rename_i hty;obtain⟨by_,hg⟩:=Tab.ty_get hty;obtain⟨d,hd,hD⟩:=(hT _ _ _ hg).run_under w;simp only[Ja9]at hD;subst hD;split at he;·rename_i y hx;cases he;rw[hx]at hv;refine⟨.int .i64 (List.length y:Int),run _ ?_,Jaf .i64 _⟩;have hsz:(⟨y.toArray⟩:ByteArray).size=y.length:=(by show y.toArray.size=_;simp);simp[Builtin.len_,ht,hd,Jlw hv,goInt,hsz, -ByteArray.size_data]
  cases he
 ·rename_i e hty;obtain⟨te,by_,hu,_,_⟩:=Jdi hT hty w;split at he;·rename_i e' xs hx;cases he;rw[hx]at hv;obtain⟨tt,cs,⟨rfl,ad,cap,rfl,hcap,hrow⟩,hpk⟩:=hv;have hpk:a.eval x= .slice ad (List.length xs) cap:=hpk;refine⟨.int .i64 (List.length xs:Int),run _ ?_,Jaf .i64 _⟩;simp[Builtin.len_,ht,hu,hpk,goInt]
  ·rename_i hx;cases he;rw[hx]at hv;obtain⟨tt,cs,⟨⟨e',rfl⟩,rfl⟩,hpk⟩:=hv;have hpk:a.eval x= .slice none 0 0:=hpk;refine⟨.int .i64 0,run _ ?_,Jaf .i64 _⟩;simp[Builtin.len_,ht,hu,hpk,goInt]
  ·rename_i l p hx;split at he
   ·rename_i r hr;cases he;rw[hx]at hv;obtain⟨g,hg,hd,ho,hcase⟩:=Jdv hs.toHRG hr hv;refine⟨.int .i64 (List.length r.xs:Int),run _ ?_,Jaf .i64 _⟩;rcases hcase with⟨_,hnil,hpk,_⟩|⟨b,off,cs,U,cap,hb,hpk,_⟩;·simp[Builtin.len_,ht,hu,hpk,goInt,hnil]
    simp[Builtin.len_,ht,hu,hpk,goInt]
   cases he
  cases he
 ·rename_i n e hty;obtain⟨te,by_,hu,_⟩:=Jyj hT hty w;cases he;refine⟨.int .i64 (n:Int),run _ ?_,Jaf .i64 _⟩;simp[Builtin.len_,ht,hu,goInt]
 cases he
end Go.Ax

namespace Go.Ax
variable {P : Program} {T : Tab}
theorem Cat.append{b:List Value}{ys:List α}(hb:Cat R b ys):∀{a:List Value} {xs:List α},Cat R a xs->Cat R (a++b) (xs++ys):=by
 intro a xs;induction xs generalizing a with
 |nil=>intro h;subst h;simpa using hb
 |cons x xs ih=>rintro⟨c1,c2,rfl,h1,h2⟩;exact⟨c1,c2++b,by simp,h1,ih h2⟩
theorem K6e{sz:Nat}{R:List Value->α->Prop}{b:Nat}(hl:∀cs x,R cs x->cs.length=sz):
  ∀{xs:List α} {o:Nat},Jp6 w sz R b o xs->∃cs,Cat R cs xs/\∀j,j<cs.length->w.cell? ⟨b,o+j,none⟩=cs[j]?
 |[],o,_=>⟨[],rfl,λj hj=>by simp at hj⟩
 |x::xs,o,h=>by
  obtain⟨c1,h1,h2⟩:=h 0 x rfl;have hl1:=hl _ _ h1;obtain⟨c2,h3,h4⟩:=K6e (xs:=xs) (o:=o+sz) hl (λi y hy=>by obtain⟨cs,e1,e2⟩:=h (i+1) y (by simpa using hy);refine⟨cs,e1,λj hj=> ?_⟩;have:=e2 j hj;rwa[show o+(i+1)*sz+j=o+sz+i*sz+j by rw[Nat.add_mul];omega]at this)
  refine⟨c1++c2,⟨c1,c2,rfl,h1,h3⟩,λj hj=> ?_⟩;grind
structure Jhx(P:Program)(w:World)(size:Nat)(v:Value)(m:Nat)(ns:List Value):Prop where
 len:∀w',(Builtin.lenOf v).run P w'= .ok m w'
 cells:∀w',w'.heap=w.heap->(Builtin.firstCells size m v).run P w'= .ok ns.toArray w'
 pre:∀k,k<=m->(Builtin.firstCells size k v).run P w= .ok (ns.take (k*size)).toArray w
def K74(e:Ty)(ys:List UInt8):Option (List e.den):=
 match e with
 | .int .u8=>some ys
 |_=>none
def Jrm(h:List J8g)(e:Ty)(x:J8e):Option (List e.den):=
 match x with
 | .v (.slice e') ys=>cast? (.slice e') (.slice e) ys
 | .nil=>some []
 | .own l p=>match J99 (J8m h l) p with
  |some r=>cast? (.slice r.e) (.slice e) r.xs
  |none=>none
 | .v .str ys=>K74 e ys
 |_=>none
theorem K3d{w w':World}(h:w'.heap=w.heap) a:w'.cell? a=w.cell? a:=by unfold World.cell?;rw[h]
theorem K6z{w w':World}(hw:w'.heap=w.heap){b o:Nat}{cs:List Value}(h:∀j,j<cs.length->w.cell? ⟨b,o+j,none⟩=cs[j]?){n:Nat}(hn:n=cs.length):(loadCells ⟨b,o,none⟩ n).run P w'= .ok cs.toArray w':=run_loadCells (λj hj=>by rw[K3d hw];exact h j hj) hn
theorem Jsx{b o cap m size:Nat}{cs:List Value}(h:∀j,j<cs.length->w.cell? ⟨b,o+j,none⟩=cs[j]?)(hl:cs.length=m*size):Jhx P w size (.slice (some ⟨b,o,none⟩) m cap) m cs:=by
 refine⟨λw'=>by simp[Builtin.lenOf],λw' hw=> ?_,λk hk=> ?_⟩;·exact K6z hw h hl.symm
 simp only[Builtin.firstCells];have hle:k*size<=m*size:=Nat.mul_le_mul_right _ hk;refine run_loadCells (λj hj=> ?_) (by rw[List.length_take,hl];omega);grind
theorem Jk7:Jhx P w size (.slice ad 0 cap) 0 []:=by
 refine⟨λw'=>by simp[Builtin.lenOf],λw' hw=> ?_,λk hk=> ?_⟩;·cases ad with|none=>simp[Builtin.firstCells]|some a=>simp[Builtin.firstCells,loadCells,loadCellsFrom]
 have:k=0:=by omega
 subst this;cases ad with|none=>simp[Builtin.firstCells]|some a=>simp[Builtin.firstCells,loadCells,loadCellsFrom]
theorem Jik(hh:HRG c G h w){e:Ty}{x:J8e}{ys:List e.den}{v:Value}(hx:Jrm h e x=some ys)(hs:∀z,x≠.v .str z)(hv:J9e G w (okB c G h w) x v):∃ns a cap,Jhx P w e.size v (List.length ys) ns/\J92 w (okB c G h w) (.arr (List.length ys) e) ns ys/\v= .slice a (List.length ys) cap/\List.length ys<=cap:=by
 unfold Jrm at hx;split at hx
 ·rename_i e' ys';obtain⟨he,hx⟩:=Jcs hx;injection he with he;subst he;subst hx;obtain⟨tt,cs,⟨rfl,ad,cap,rfl,hcap,hrow⟩,hpk⟩:=hv;have hpk:v= .slice ad (List.length ys') cap:=hpk;subst hpk;rcases hrow with rfl|⟨b,off,rfl,hok,hrow⟩;·exact⟨[],ad,cap,Jk7,⟨rfl,rfl⟩,rfl,hcap⟩
  obtain⟨ns,h1,h2⟩:=K6e (λcs x=>J92.len e') hrow
  have hl:=Cat.len (λcs x=>J92.len e') h1;exact⟨ns,_,cap,Jsx h2 hl,⟨rfl,h1⟩,rfl,hcap⟩
 ·cases hx;obtain⟨tt,cs,⟨⟨e',rfl⟩,rfl⟩,hpk⟩:=hv;have hpk:v= .slice none 0 0:=hpk;subst hpk;exact⟨[],none,0,Jk7,⟨rfl,rfl⟩,rfl,Nat.le_refl _⟩
 ·rename_i l p;split at hx
  ·rename_i r hr;obtain⟨he,hx⟩:=Jcs hx;cases he;have hx:r.xs=ys:=hx;subst hx;obtain⟨g,hg,hd,ho,hcase⟩:=Jdv hh hr hv;rcases hcase with⟨_,hnil,rfl,_⟩|⟨b,off,cs,U,cap,hb,rfl,hcap,hheap,hp,hk,hrep⟩;·have hl0:List.length r.xs=0:=(by rw[hnil];rfl);exact⟨[],none,0,by rw[hl0];exact Jk7,⟨rfl,by rw[hnil];rfl⟩,by rw[hl0],by rw[hl0];exact Nat.le_refl _⟩
   have hl:=J92.len _ hrep;exact⟨_,_,cap,Jsx (Jj5 hheap) (by rw[hl];rfl),hrep,rfl,hcap⟩
  cases hx
 ·rename_i z;exact absurd rfl (hs z)
 cases hx
theorem Jkm w ok:∀(ys:List UInt8),Cat (J92 w ok (.int .u8)) (ys.map λb=>Value.int .u8 (b.toNat:Int)) ys
 |[]=>rfl
 |y::ys=>⟨[_],_,rfl,rfl,Jkm w ok ys⟩
theorem size_mk(y:List UInt8):(⟨y.toArray⟩:ByteArray).size=y.length:=by show y.toArray.size=_;simp
theorem Ju4(hv:J9e G w ok (.v .str z) v):∃ns,Jhx P w 1 v (List.length z) ns/\J92 w ok (.arr (List.length z) (.int .u8)) ns z:=by
 have hv:=Jlw hv;subst hv;refine⟨_,⟨λw'=>by simp[Builtin.lenOf,size_mk, -ByteArray.size_data],λw' hw=> ?_,λk hk=> ?_⟩,⟨rfl,Jkm w ok z⟩⟩
 ·have e:(⟨z.toArray⟩:ByteArray).extract 0 (List.length z)=⟨z.toArray⟩:=by rw[<-size_mk z,ByteArray.extract_zero_size]
  simp only[Builtin.firstCells,e,Sem.run_pure];simp
 have e:(⟨z.toArray⟩:ByteArray).extract 0 k=⟨(z.take k).toArray⟩:=by apply ByteArray.ext;simp_all
 simp only[Builtin.firstCells,e,Sem.run_pure];simp[List.map_take]
section
variable {w w' : World} {t0 t1 ty te : TypeId} {i : TypeInfo} {d : TypeDesc} {v z : Value} {m : Nat} {ns : List Value} {size : Nat}
theorem Kd5(hu:∀w,(underlying t0).run P w= .ok (.slice te) w)(hi:P.info? te=some i)(hd:∀w,(underlying t1).run P w= .ok d w)(hni:∀k,d≠.int k)(hs:Jhx P w i.size v m ns)(hroom:n+m<=cap)(hst:(storeCells ⟨b,n*i.size,none⟩ ns).run P w= .ok () w'):(Builtin.append_ #[t0,t1] ty #[.slice (some ⟨b,0,none⟩) n cap,v]).run P w= .ok (.slice (some ⟨b,0,none⟩) (n+m) cap) w':=by
 have hz:(match d with| .int _=>true|_=>false)=false:=by cases d<;>first|rfl|exact absurd rfl (hni _)
 simp[Builtin.append_,hu,hd,sizeOf,typeInfo,hi,hz,hs.len,hroom,hs.cells w rfl,add_plain,hst]
theorem K86(hu:∀w,(underlying t0).run P w= .ok (.slice te) w)(hi:P.info? te=some i)(hd:∀w,(underlying t1).run P w= .ok d w)(hni:∀k,d≠.int k)(hs:Jhx P w i.size v 0 ns):(Builtin.append_ #[t0,t1] ty #[.slice none 0 0,v]).run P w= .ok (.slice none 0 0) w:=by
 have hz:(match d with| .int _=>true|_=>false)=false:=by cases d<;>first|rfl|exact absurd rfl (hni _)
 simp[Builtin.append_,hu,hd,sizeOf,typeInfo,hi,hz,hs.len,hs.cells w rfl]
theorem K85(hu:∀w,(underlying t0).run P w= .ok (.slice te) w)(hi:P.info? te=some i)(hz0:i.zero=some z)(hd:∀w,(underlying t1).run P w= .ok d w)(hni:∀k,d≠.int k)(hs:Jhx P w i.size v m ns){n cap:Nat}(ho:Jhx P w i.size (.slice a n cap) n os)(hroom:¬n+m<=cap)(h63:n+m<=9223372036854775807)(hb:(n+m)*i.bytes<=140737488355328):(Builtin.append_ #[t0,t1] ty #[.slice a n cap,v]).run P w= .ok (.slice (some ⟨w.heap.size,0,none⟩) (n+m) (grownCap w (n+m) cap te)) (w.drew.alloc (.cells (os.toArray++ns.toArray++Builtin.zeroCells z.cells (grownCap w (n+m) cap te - (n+m))) te)):=by
 have hz:(match d with| .int _=>true|_=>false)=false:=by cases d<;>first|rfl|exact absurd rfl (hni _)
 have h63':¬(9223372036854775807<((n:Int)+(m:Int))):=by omega
 have h48':¬(281474976710656<Builtin.nextslicecap (n+m) cap*i.bytes):=by have:=growslice_fits (by omega:cap<n+m) hb;omega
 simp[Builtin.append_,hu,hd,sizeOf,typeInfo,zeroValue,hi,hz0,hz,hs.len,hroom,h63',h48',Question.forced,hs.cells w.drew rfl,ho.cells w.drew rfl,newRow,grownCap];congr 2;apply Array.ext';simp[List.append_assoc]
theorem Jct w need old e:need<=grownCap w need old e:=by simp[grownCap,Question.cut]
theorem Jht(f:Nat->Value)(sz:Nat):∀n,(List.range (n*sz)).map (λi=>f (i%sz))=(List.replicate n ((List.range sz).map f)).flatten
 |0=>by simp
 |n+1=>by rw[List.replicate_succ',List.flatten_append,<-Jht f sz n,Nat.add_mul,Nat.one_mul,List.range_add,List.map_append,List.map_map];congr 1;simp only[List.flatten_cons,List.flatten_nil,List.append_nil];apply List.map_congr_left;intro i hi;have:i<sz:=List.mem_range.1 hi;show f ((n*sz+i)%sz)=f i;rw[Nat.mul_comm,Nat.mul_add_mod,Nat.mod_eq_of_lt this]
theorem Jgd(z:Array Value)(n:Nat):(Builtin.zeroCells z n).toList=(List.replicate n z.toList).flatten:=by
 have:=Jht (λi=>z[i]!) z.size n;have e:(List.range z.size).map (λi=>z[i]!)=z.toList:=by
  apply List.ext_getElem;·simp
  grind
 rw[e]at this;rw[<-this];simp[Builtin.zeroCells]
theorem K87(hu:∀w,(underlying t0).run P w= .ok (.slice te) w)(hi:P.info? te=some i)(hz0:i.zero=some z)(hd:∀w,(underlying t1).run P w= .ok (.int k) w)(hm:m<=9223372036854775807)(hb:m*i.bytes<=140737488355328)(hzs:z.cells.size=i.size)(hroom:n+m<=cap)(hst:(storeCells ⟨b,n*i.size,none⟩ (Builtin.zeroCells z.cells m).toList).run P w= .ok () w'):(Builtin.append_ #[t0,t1] ty #[.slice (some ⟨b,0,none⟩) n cap,.int .i64 m]).run P w= .ok (.slice (some ⟨b,0,none⟩) (n+m) cap) w':=by
 have wl:IntKind.i64.wrap (m:Int)=m:=by rw[show IntKind.i64.wrap (m:Int)=w64 m from rfl,J9n (by omega) (by omega)]
 have h48:¬(281474976710656<(m:Int)*(i.bytes:Int)):=by have:((m*i.bytes:Nat):Int)<=140737488355328:=(by omega);rw[Int.natCast_mul]at this;omega
 have hneg:¬((m:Int)<0):=by omega
 by_cases h0:m*i.size=0
 ·have hsz:Builtin.zeroCells z.cells m= #[]:=by apply Array.eq_empty_of_size_eq_zero;simp[Builtin.zeroCells,hzs,h0]
  simp[hsz,storeCells]at hst;subst hst;simp[Builtin.append_,hu,hd,sizeOf,typeInfo,zeroValue,hi,hz0,asInt,asIntOf,wl,hneg,h48,hroom,h0,add_plain,storeCells]
 simp[Builtin.append_,hu,hd,sizeOf,typeInfo,zeroValue,hi,hz0,asInt,asIntOf,wl,hneg,h48,hroom,h0,add_plain,hst]
theorem K2t(hu:∀w,(underlying t0).run P w= .ok (.slice te) w)(hi:P.info? te=some i)(hd:∀w,(underlying t1).run P w= .ok (.int k) w):(Builtin.append_ #[t0,t1] ty #[.slice none 0 0,.int .i64 0]).run P w= .ok (.slice none 0 0) w:=by
 have wl:IntKind.i64.wrap 0=0:=by decide
 simp[Builtin.append_,hu,hd,sizeOf,typeInfo,hi,asInt,asIntOf,wl]
theorem K2s(hu:∀w,(underlying t0).run P w= .ok (.slice te) w)(hi:P.info? te=some i)(hz0:i.zero=some z)(hd:∀w,(underlying t1).run P w= .ok (.int k) w)(hzs:z.cells.size=i.size){n cap:Nat}(ho:Jhx P w i.size (.slice a n cap) n os)(hroom:¬n+m<=cap)(h63:n+m<=9223372036854775807)(hb:(n+m)*i.bytes<=140737488355328):(Builtin.append_ #[t0,t1] ty #[.slice a n cap,.int .i64 m]).run P w= .ok (.slice (some ⟨w.heap.size,0,none⟩) (n+m) (grownCap w (n+m) cap te)) (w.drew.alloc (.cells (os.toArray++(Builtin.zeroCells z.cells m)++Builtin.zeroCells z.cells (grownCap w (n+m) cap te - (n+m))) te)):=by
 have wl:IntKind.i64.wrap (m:Int)=m:=by rw[show IntKind.i64.wrap (m:Int)=w64 m from rfl,J9n (by omega) (by omega)]
 have h48:¬(281474976710656<(m:Int)*(i.bytes:Int)):=by have:((m*i.bytes:Nat):Int)<=140737488355328:=(by have:m*i.bytes<=(n+m)*i.bytes:=Nat.mul_le_mul_right _ (by omega);omega);rw[Int.natCast_mul]at this;omega
 have hneg:¬((m:Int)<0):=by omega
 have h63':¬(9223372036854775807<((n:Int)+(m:Int))):=by omega
 have h48':¬(281474976710656<Builtin.nextslicecap (n+m) cap*i.bytes):=by have:=growslice_fits (by omega:cap<n+m) hb;omega
 by_cases h0:m*i.size=0
 ·have hsz:Builtin.zeroCells z.cells m= #[]:=by apply Array.eq_empty_of_size_eq_zero;simp[Builtin.zeroCells,hzs,h0]
  simp[Builtin.append_,hu,hd,sizeOf,typeInfo,zeroValue,hi,hz0,asInt,asIntOf,wl,hneg,h48,hroom,h0,hsz,h63',h48',Question.forced,ho.cells w.drew rfl,newRow,grownCap]
 simp[Builtin.append_,hu,hd,sizeOf,typeInfo,zeroValue,hi,hz0,asInt,asIntOf,wl,hneg,h48,hroom,h0,h63',h48',Question.forced,ho.cells w.drew rfl,newRow,grownCap]
end
theorem Jxl{h:List J8g}{w w1:World}(hh:HRG c G h w)(e1:w1.heap=w.heap)(e2:w1.os=w.os)(e3:w1.tape=w.tape)(e4:w1.output=w.output){e:Ty}{zs:List e.den}{C:Array Value} U {cap:Nat} (hcap:List.length zs<=cap) (hC:cap*e.size<=C.size) (hr:J92 w (okB c G h w) (.arr (List.length zs) e) (C.toList.take (List.length zs*e.size)) zs):HRG c (G++[⟨.row,some w.heap.size,e,List.length zs,cap⟩]) (h++[.row e zs true]) (w1.alloc (.cells C U))/\ J9c w (w1.alloc (.cells C U)) (okB c G h w) (okB c (G++[⟨.row,some w.heap.size,e,List.length zs,cap⟩]) (h++[.row e zs true]) (w1.alloc (.cells C U)))/\ ∀ok',J9e (G++[⟨.row,some w.heap.size,e,List.length zs,cap⟩]) (w1.alloc (.cells C U)) ok' (.own h.length []) (.slice (some ⟨w.heap.size,0,none⟩) (List.length zs) cap):=by
 obtain⟨h1,h2,k1⟩:=hh.same e1 e2 e3 e4;have hsz:w1.heap.size=w.heap.size:=by rw[e1]
 obtain⟨h3,k3⟩:=h1.alloc (cs:=C) (U:=U) (o:=.row e zs true) (g:=⟨.row,some w.heap.size,e,List.length zs,cap⟩) (by rw[hsz]) (λok' k=>by
  refine⟨rfl,rfl,rfl,hcap,.inr ⟨w.heap.size,C,U,rfl, ?_,hC, ?_⟩⟩;·rw[<-hsz];exact heap_alloc_new w1 _
  rw[h2]at k;exact J92.mono k _ (J92.mono k1 _ hr))
 refine⟨h3, ?_,λok'=> ?_⟩;·rw[h2]at k3;exact⟨λb hb=>k3.sub b (k1.sub b hb),λb o v hb hv=>k3.cell b o v (k1.sub b hb) (k1.cell b o v hb hv)⟩
 refine⟨.slice e,_,⟨⟨.row,some w.heap.size,e,List.length zs,cap⟩,_, ?_,rfl,.inl ⟨rfl,rfl,rfl,rfl⟩⟩,rfl⟩;rw[<-hh.len];simp
theorem HRG.kill(hh:HRG c G h w)(hl:h[l]? =some o):HRG c G (h.set l .dead) w/\J9c w w (okB c G h w) (okB c G (h.set l .dead) w):=by refine hh.shrink (by simp) λk x x' hx hx'=> ?_;grind
theorem J9c.trans(h:J9c w w1 a b)(k:J9c w1 w2 b c):J9c w w2 a c:=⟨λx hx=>k.sub x (h.sub x hx),λx o v hx hv=>k.cell x o v (h.sub x hx) (h.cell x o v hx hv)⟩
theorem J9c.refl w a:J9c w w a a:=⟨λ_ h=>h,λ_ _ _ _ h=>h⟩
def Kdq(T:Tab)(h:List J8g)(t1:Nat)(e:Ty)(x:J8e):Option (List Prop×List e.den):=
 match T.ty t1 with
 |some (.int _)=>match x with
  | .v (.int .i64) n=>if e.pure then some ([(0:Int)<=n/\n<=(1073741824:Int)],List.replicate (Int.toNat n) e.zero)else none
  |_=>none
 |some _=>match Jrm h e x with
  |some ys=>some ([],ys)
  |none=>none
 |none=>none
def Jrb (T:Tab) (h:List J8g) (t0 t1:Nat) (s x:J8e):Option (List Prop×J8e×List J8g):=
 match T.ty t0 with
 | some (.slice e)=>match e.pure,Kdq T h t1 e x with
  | true,some (ps,ys)=>match s with
   | .nil=>some ((List.length ys<=2147483648)::ps,.own h.length [],h++[.row e ys true])
   | .own l []=>match J8m h l with
    | .row e' xs true=>match cast? (.slice e') (.slice e) xs with
     |some xs=>some ((List.length xs+List.length ys<=2147483648)::ps,.own h.length [],h.set l .dead++[.row e (xs++ys) true])
     |none=>none
    |_=>none
   |_=>none
  |_,_=>none
 |_=>none
structure AppOK(P:Program)(w:World)(e:Ty)(t0 t1 ty te:TypeId)(v:Value)(m:Nat)(ns:List Value):Prop where
 none_:m=0->(Builtin.append_ #[t0,t1] ty #[.slice none 0 0,v]).run P w= .ok (.slice none 0 0) w
 fit:∀(b n cap:Nat) (w':World),n+m<=cap->(storeCells ⟨b,n*e.size,none⟩ ns).run P w= .ok () w'->
  (Builtin.append_ #[t0,t1] ty #[.slice (some ⟨b,0,none⟩) n cap,v]).run P w= .ok (.slice (some ⟨b,0,none⟩) (n+m) cap) w'
 grow:∀(a:Option Addr) (n cap:Nat) (os:List Value),Jhx P w e.size (.slice a n cap) n os->os.length=n*e.size->¬n+m<=cap->n+m<=2147483648->
  ∃(cap':Nat) (C:Array Value) (w1:World),n+m<=cap'/\w1.heap=w.heap/\w1.os=w.os/\w1.tape=w.tape/\w1.output=w.output/\
  (Builtin.append_ #[t0,t1] ty #[.slice a n cap,v]).run P w= .ok (.slice (some ⟨w.heap.size,0,none⟩) (n+m) cap') (w1.alloc (.cells C te))/\
  C.toList.take ((n+m)*e.size)=os++ns/\cap'*e.size<=C.size
theorem TyI.zero_cells(h:TyI P T t ty b)(hp:ty.pure=true):∃i z,P.info? t=some i/\i.size=ty.size/\i.bytes=b/\i.zero=some z/\z.cells.toList=J9h ty:=by
 obtain⟨i,hi,h1,h2,h3⟩:=h.info;rcases h3 with h3|h3|h3;·subst h3;cases hp
 ·subst h3;cases hp
 exact⟨i,_,hi,h1,h2,h3,pack_cells (Jae ty) (Jb8 ty)⟩
theorem Jj2(h:k<=2147483648)(hb:b<=65536):k*b<=140737488355328:=Nat.le_trans (Nat.mul_le_mul h hb) (by decide)
theorem Jz1(hT:J9a P T)(hh:HRG c G h w)(h0:T.ty t0=some (.slice e))(he:Kdq T h t1 e x=some (ps,ys))(hps:Jb2 ps)(hv:J9e G w (okB c G h w) x v)(hp:e.pure=true):∃te ns,AppOK P w e t0 t1 ty te v (List.length ys) ns/\J92 w (okB c G h w) (.arr (List.length ys) e) ns ys:=by
 obtain⟨te,by_,hu,hg2,hI⟩:=Jdi hT h0 w;have hu:∀w,(underlying t0).run P w= .ok (.slice te) w:=(by intro w';obtain⟨te',by_',hu',_⟩:=Jdi hT h0 w';have:te'=te:=(by simp only[underlying,Sem.run_bind]at hu hu';cases hd:P.underlying t0 with|none=>simp[hd]at hu|some d=>simp[hd]at hu hu';rw[hu]at hu';injection hu' with hu';exact hu'.symm);rw[this]at hu';exact hu');obtain⟨i,z,hi,hsz,hby,hz,hzc⟩:=hI.zero_cells hp;have hzs:z.cells.size=i.size:=(by rw[<-Array.length_toList,hzc,Jae,hsz]);have hbb:i.bytes<=65536:=(by rw[hby];exact hI.small);have hzl:∀n,(Builtin.zeroCells z.cells n).toList=(List.replicate n (J9h e)).flatten:=λn=>(by rw[Jgd,hzc]);have hzsz:∀n,(Builtin.zeroCells z.cells n).size=n*e.size:=λn=>(by simp[Builtin.zeroCells,hzs,hsz]);refine⟨te, ?_⟩;unfold Kdq at he;split at he
 ·rename_i k hty;obtain⟨b1,hg⟩:=Tab.ty_get hty;have hd:∀w,(underlying t1).run P w= .ok (.int k) w:=λw'=>(by obtain⟨d,hd,hD⟩:=(hT _ _ _ hg).run_under w';simp only[Ja9]at hD;subst hD;exact hd);split at he
  ·rename_i n;rw[if_pos hp]at he;cases he;obtain⟨⟨hn0,hn1⟩,_⟩:=hps;have hv:=Jgf hv;obtain⟨m,rfl⟩:=Int.eq_ofNat_of_zero_le hn0;have hn1:(m:Int)<=(1073741824:Int):=hn1;have hv:v= .int .i64 (m:Int):=hv;subst hv;have hm:m<=1073741824:=(by omega);have hlen:List.length (List.replicate (Int.toNat (m:Int)) e.zero)=m:=(by simp);refine⟨(Builtin.zeroCells z.cells m).toList,⟨?_, ?_, ?_⟩, ?_⟩;·rw[hlen];rintro rfl;exact K2t hu hi hd
   ·rw[hlen];intro b n cap w' hroom hst;exact K87 hu hi hz hd (by omega) (Jj2 (by omega) hbb) hzs hroom (by rw[hsz];exact hst)
   ·rw[hlen];intro a n cap os hso hol hroom hnm;have:=K2s (P:=P) (w:=w) (ty:=ty) hu hi hz hd hzs (by rw[hsz];exact hso) hroom (by omega) (Jj2 hnm hbb);refine⟨_,_,_,Jct w _ _ _, ?_, ?_, ?_, ?_,this, ?_, ?_⟩;·rfl
    ·rfl
    ·rfl
    ·rfl
    ·simp only[Array.toList_append];rw[List.take_append_of_le_length];·rw[List.take_of_length_le];simp[hzsz,hol,Nat.add_mul]
     simp[hzsz,hol,Nat.add_mul]
    simp only[Array.size_append,hzsz,List.size_toArray,hol];have:=Jct w (n+m) cap te;rw[<-Nat.add_mul,<-Nat.add_mul];exact Nat.mul_le_mul_right _ (by omega)
   rw[hlen];exact⟨by simp,by rw[hzl];simp only[Int.toNat_natCast];exact Jb9 (Jea w _ e hp) m⟩
  cases he
 ·rename_i t1' hni hty;split at he
  ·rename_i ys' hx;injection he with he;injection he with e1 e2;subst e1;subst e2;obtain⟨b1,hg⟩:=Tab.ty_get hty;obtain⟨d,hd0,hD⟩:=(hT _ _ _ hg).desc;have hd:∀w,(underlying t1).run P w= .ok d w:=λw'=>(by simp[underlying,hd0]);have hnd:∀k,d≠.int k:=by
    rintro k rfl;cases t1' with
    |int k'=>exact hni k' rfl
    |arr n e=>obtain⟨_,h,_⟩:=hD;cases h
    |slice e=>obtain⟨_,h,_⟩:=hD;cases h
    |unit=>obtain⟨_,h,_⟩:=hD;cases h
    |fld a r=>obtain⟨_,h,_⟩:=hD;cases h
    |ptr=>obtain⟨_,h⟩:=hD;cases h
    |mp=>obtain⟨_,_,h⟩:=hD;cases h
    |fn=>obtain⟨_,_,_,h⟩:=hD;cases h
    |bool=>cases hD
    |str=>cases hD
    |flt=>cases hD
    |cplx=>cases hD
   have hsrc:∃ns,Jhx P w e.size v (List.length ys') ns/\J92 w (okB c G h w) (.arr (List.length ys') e) ns ys':=by
    by_cases hs:∃z,x= .v .str z
    ·obtain⟨z,rfl⟩:=hs;simp only[Jrm,K74]at hx;split at hx;·cases hx;exact Ju4 hv
     cases hx
    obtain⟨ns,_,_,h1,h2,_⟩:=Jik hh hx (λz hz=>hs ⟨z,hz⟩) hv
    exact⟨ns,h1,h2⟩
   obtain⟨ns,hs,hr⟩:=hsrc;have hnl:=J92.len _ hr;simp only[Ty.size]at hnl;have hs':Jhx P w i.size v (List.length ys') ns:=(by rw[hsz];exact hs);refine⟨ns,⟨?_, ?_, ?_⟩,hr⟩;·intro h0;rw[h0]at hs';exact K86 hu hi hd hnd hs'
   ·intro b n cap w' hroom hst;exact Kd5 hu hi hd hnd hs' hroom (by rw[hsz];exact hst)
   intro a n cap os hso hol hroom hnm;have:=K85 (P:=P) (w:=w) (ty:=ty) hu hi hz hd hnd hs' (by rw[hsz];exact hso) hroom (by omega) (Jj2 hnm hbb);refine⟨_,_,_,Jct w _ _ _, ?_, ?_, ?_, ?_,this, ?_, ?_⟩;·rfl
   ·rfl
   ·rfl
   ·rfl
   ·simp only[Array.toList_append];rw[List.take_append_of_le_length];·rw[List.take_of_length_le];simp[hnl,hol,Nat.add_mul]
    simp[hnl,hol,Nat.add_mul]
   simp only[Array.size_append,hzsz,List.size_toArray,hol,hnl];have:=Jct w (n+List.length ys') cap te;rw[<-Nat.add_mul,<-Nat.add_mul];exact Nat.mul_le_mul_right _ (by omega)
  cases he
 cases he
theorem J92.arr_append{n m:Nat}{a b:List Value}{xs ys:List e.den}(h1:J92 w ok (.arr n e) a xs)(h2:J92 w ok (.arr m e) b ys):J92 w ok (.arr (n+m) e) (a++b) (xs++ys):=⟨by rw[List.length_append,h1.1,h2.1],Cat.append h2.2 h1.2⟩
theorem Jsm(hh:HRG c G h w){v:Value}{ys:List e.den}{ns:List Value}(ha:AppOK P w e t0 t1 ty te v (List.length ys) ns)(hr:J92 w (okB c G h w) (.arr (List.length ys) e) ns ys){a:Option Addr}{n cap:Nat}{os:List Value}{xs:List e.den}(hso:Jhx P w e.size (.slice a n cap) n os)(hro:J92 w (okB c G h w) (.arr n e) os xs)(hroom:¬n+List.length ys<=cap)(hnm:n+List.length ys<=2147483648):∃v' w' g,(Builtin.append_ #[t0,t1] ty #[.slice a n cap,v]).run P w= .ok v' w'/\HRG c (G++[g]) (h++[.row e (xs++ys) true]) w'/\ J9c w w' (okB c G h w) (okB c (G++[g]) (h++[.row e (xs++ys) true]) w')/\∀ok',J9e (G++[g]) w' ok' (.own h.length []) v':=by
 have hol:=J92.len _ hro;have hnl:=J92.len _ hr;have hx:List.length xs=n:=hro.1;obtain⟨cap',C,w1,h1,e1,e2,e3,e4,hrun,htake,hC⟩:=ha.grow a n cap os hso hol hroom hnm;have hlen:List.length (xs++ys)=n+List.length ys:=by rw[List.length_append,hx]
 obtain⟨r1,r2,r3⟩:=Jxl hh e1 e2 e3 e4 (zs:=xs++ys) (C:=C) te (cap:=cap') (by rw[hlen];exact h1) hC (by rw[hlen,htake];exact J92.arr_append hro hr);grind
theorem Jo4(hh:HRG c G h w) e:HRG c (G++[⟨.row,none,e,0,0⟩]) (h++[.row e [] true]) w/\J9c w w (okB c G h w) (okB c (G++[⟨.row,none,e,0,0⟩]) (h++[.row e [] true]) w)/\ ∀ok',J9e (G++[⟨.row,none,e,0,0⟩]) w ok' (.own h.length []) (.slice none 0 0):=by
 obtain⟨h1,k⟩:=hh.fresh (o:=.row e [] true) (g:=⟨.row,none,e,0,0⟩) rfl (λok'=>⟨rfl,rfl,rfl,Nat.le_refl _,.inl ⟨rfl,rfl⟩⟩)
 refine⟨h1,k,λok'=>⟨.slice e,[.slice none 0 0],⟨⟨.row,none,e,0,0⟩,_, ?_,rfl,.inl ⟨rfl,rfl,rfl,rfl⟩⟩,rfl⟩⟩;rw[<-hh.len];simp
theorem Jwp (hT:J9a P T) (hop:o.op= .call cl) (hc:cl.callee= .builtin .append) (hargs:cl.args= #[x,y]) (ht:cl.argTypes= #[t0,t1]) (he:Jrb T st.heap t0 t1 (J9d st.slots x) (J9d st.slots y)=some (ps,s,h')) (hps:Jb2 ps):VOp P o st s h':=by
 have run:∀(a:Act) (w:World) v w',(Builtin.append_ #[t0,t1] o.type #[a.eval x,a.eval y]).run P w= .ok v w'->(execOp a.eval o).run P w= .ok (.value v) w':=by intro a w v w' hr;simp[execOp,hop,resolve,hc,hargs,ht,invoke,builtin,hr]
 intro c G a w hs;have hv:=J8s hs x;have hy:=J8s hs y;unfold Jrb at he;split at he
 ·rename_i e hty;split at he
  ·rename_i ps' ys hpure hadd;have hh:=hs.toHRG;split at he
   ·rename_i hx;injection he with he;injection he with e1 e2;injection e2 with e2 e3;subst e1;subst e2;subst e3;obtain⟨te,ns,ha,hr⟩:=Jz1 (ty:=o.type) hT hh hty hadd hps.2 hy hpure;rw[hx]at hv;obtain⟨tt,cs,⟨⟨e',rfl⟩,rfl⟩,hpk⟩:=hv;have hpk:a.eval x= .slice none 0 0:=hpk;by_cases hm:List.length ys=0;·have hys:ys=[]:=List.eq_nil_of_length_eq_zero hm;subst hys;obtain⟨r1,r2,r3⟩:=Jo4 hh e;exact⟨_,_,_,.inl (run a w _ _ (by rw[hpk];exact ha.none_ rfl)),r1,Ext.snoc _ _,r2,r3 _⟩
    have hle:0+List.length ys<=2147483648:=(by rw[Nat.zero_add];exact hps.1);obtain⟨v',w',g,hrun,r1,r2,r3⟩:=Jsm hh ha hr (a:=none) (n:=0) (cap:=0) (os:=[]) (xs:=[]) Jk7 ⟨rfl,rfl⟩ (by omega) hle;exact⟨_,_,_,.inl (run a w _ _ (by rw[hpk];exact hrun)),r1,Ext.snoc _ _,r2,r3 _⟩
   ·rename_i l hx;split at he
    ·rename_i e' xs hob;split at he
     ·rename_i xs' hcast;obtain⟨hee,hxx⟩:=Jcs hcast;injection hee with hee;subst hee;have hxx:xs=xs':=hxx;subst hxx;cases he;obtain⟨te,ns,ha,hr⟩:=Jz1 (ty:=o.type) hT hh hty hadd hps.2 hy hpure;rw[hx]at hv;have hod:J99 (J8m st.heap l) []=some ⟨e',xs⟩:=(by rw[hob];rfl);obtain⟨g,hg,hd,ho,hcase⟩:=Jdv hh hod hv;obtain⟨hk1,kk1⟩:=hh.kill ho;have hlive:(J8m st.heap l).live=true:=(by rw[hob];rfl);have hle:List.length xs+List.length ys<=2147483648:=hps.1;have hset:(st.heap.set l .dead).length=st.heap.length:=(by simp);rcases hcase with⟨hb0,hnil,hpk,hgk⟩|⟨b,off,cs,U,cap,hb,hpk,hcap,hheap,hp,hkk,hrep⟩
      ·have hnil:xs=[]:=hnil;subst hnil;by_cases hm:List.length ys=0;·have hys:ys=[]:=List.eq_nil_of_length_eq_zero hm;subst hys;obtain⟨r1,r2,r3⟩:=Jo4 hk1 e';refine⟨_,_,_,.inl (run a w _ _ (by rw[hpk];exact ha.none_ rfl)),r1,Ext.snoc _ _,J9c.trans kk1 r2, ?_⟩;rw[hset]at r3;exact r3 _
       have hr':=J92.mono kk1 _ hr;obtain⟨v',w',g,hrun,r1,r2,r3⟩:=Jsm hk1 ha hr' (a:=none) (n:=0) (cap:=0) (os:=[]) (xs:=[]) Jk7 ⟨rfl,rfl⟩ (by omega) (by simpa using hle);refine⟨_,_,_,.inl (run a w _ _ (by rw[hpk];exact hrun)),r1,Ext.snoc _ _,J9c.trans kk1 r2, ?_⟩;rw[hset]at r3;exact r3 _
      have hpk:a.eval x= .slice (some ⟨b,off,none⟩) (List.length xs) cap:=hpk;have hcap:List.length xs<=cap:=hcap;have hrep:J92 w (okB c G st.heap w) (.arr (List.length xs) e') ((cs.toList.drop off).take (List.length xs*e'.size)) xs:=hrep;have hobj:=hh.objs l _ g ho hg;rw[hob]at hobj;obtain⟨q1,q2,q3,q4,q5⟩:=hobj;have hval:a.eval x= .slice (g.blk.map λb=>⟨b,0,none⟩) g.n g.cap:=by
       obtain⟨t,cs0,⟨g',u,hg',rfl,hu⟩,hpk2⟩:=hv;rw[hg]at hg';injection hg' with hg';subst hg';rcases hu with⟨_,_,rfl,rfl⟩|⟨hk,_⟩;·exact hpk2
       rw[q1]at hk;cases hk
      rw[hb]at hval;rw[hpk]at hval;injection hval with v1 v2 v3;simp only[Option.map_some,Option.some.injEq,Addr.mk.injEq,true_and]at v1;obtain⟨rfl,_⟩:=v1;subst v3
      have hsrc:Jhx P w e'.size (.slice (some ⟨b,0,none⟩) (List.length xs) g.cap) (List.length xs) ((cs.toList.drop 0).take (List.length xs*e'.size)):=
       Jsx (Jj5 hheap) (by rw[J92.len _ hrep];rfl)
      by_cases hroom:List.length xs+List.length ys<=g.cap
      ·have hnl:=J92.len _ hr;simp only[Ty.size]at hnl;rcases q5 with⟨q5,_⟩|⟨b',C,U',q5,q6,q7,q8⟩;·rw[q5]at hb;cases hb
       rw[q5]at hb;injection hb with hb;subst hb;rw[hheap]at q6;injection q6 with q6;injection q6 with q6 q6';subst q6;subst q6';have hfit:List.length xs*e'.size+List.length ys*e'.size<=cs.size:=(by rw[<-Nat.add_mul];exact Nat.le_trans (Nat.mul_le_mul_right _ hroom) q7);have hone:∀u∈ns,u.oneCell'=true:=J92.cells _ hr;obtain⟨w',c',hst,hwr,hc'⟩:=Jcp (P:=P) b' (List.length xs*e'.size) ns 0 w cs hheap (by rw[hnl];omega) hone;have hrun:=ha.fit b' (List.length xs) g.cap w' hroom hst;have hcsz:c'.size=cs.size:=by
        rw[<-Array.length_toList,hc',Jfd];·simp
        rw[hnl];simp;omega
       obtain⟨r1,r2⟩:=hh.heir (o':=.row e' (xs++ys) true) (g':=⟨.row,some b',e',List.length xs+List.length ys,g.cap⟩) ho hg hlive q5 rfl hwr (λok' k=>by
        refine⟨rfl,rfl,by simp,hroom,.inr ⟨b',c',U,rfl,hwr.here,by rw[hcsz];exact q7, ?_⟩⟩;have h1:=J92.mono k _ hrep;have h2:=J92.mono k _ hr;have h3:=J92.arr_append h1 h2;have:c'.toList.take ((List.length xs+List.length ys)*e'.size)=(cs.toList.drop 0).take (List.length xs*e'.size)++ns:=by
         rw[hc',Nat.add_zero,splice,List.drop_zero,List.take_append_of_le_length];·rw[List.take_of_length_le];simp[hnl,Nat.add_mul];omega
         simp[hnl,Nat.add_mul];omega
        rw[this];exact h3) rfl
       refine⟨_,_,_,.inl (run a w _ _ (by rw[hpk];exact hrun)),r1,Ext.snoc _ _,r2, ?_⟩;refine⟨.slice e',_,⟨⟨.row,some b',e',List.length xs+List.length ys,g.cap⟩,_, ?_,rfl,.inl ⟨rfl,rfl,rfl,rfl⟩⟩,rfl⟩;rw[<-hh.len];simp
      have hr':=J92.mono kk1 _ hr;have hrep':=J92.mono kk1 _ hrep;obtain⟨v',w',g',hrun,r1,r2,r3⟩:=Jsm hk1 ha hr' hsrc hrep' hroom hle;refine⟨_,_,_,.inl (run a w _ _ (by rw[hpk];exact hrun)),r1,Ext.snoc _ _,J9c.trans kk1 r2, ?_⟩;rw[hset]at r3;exact r3 _
     cases he
    cases he
   cases he
  cases he
 cases he
end Go.Ax

namespace Go.Ax
variable {P : Program} {T : Tab}
def Jbs(ss:List (Nat×J8e))(o:Option Operand)(d:Int):Option Int:=
 match o with
 |none=>some d
 |some x=>match J9d ss x with
  | .v (.int k) n=>some (IK.toInt k n)
  |_=>none
theorem Jpl(hs:SRG c G st a w)(h:Jbs st.slots o d=some z):(o=none/\z=d)\/∃x k,o=some x/\a.eval x= .int k z:=by
 unfold Jbs at h;split at h;·grind
 rename_i x;split at h;·rename_i k n hx;cases h;have hv:=J8s hs x;rw[hx]at hv;exact .inr ⟨x,k,rfl,Jgf hv⟩
 cases h
theorem Jqm(hs:SRG c G st a w){len cap:Nat}(h1:Jbs st.slots lo 0=some l)(h2:Jbs st.slots hi len=some h)(h3:0<=l/\l<=h/\h<=cap):(Instr.sliceBounds sl len cap (lo.map a.eval) (hi.map a.eval) none).run P w= .ok (l.toNat,h.toNat,cap) w:=by
 obtain⟨e1,e2,e3⟩:=h3;have hh:0<=h/\h<=(cap:Int):=⟨by omega,e3⟩;rcases Jpl hs h1 with⟨rfl,rfl⟩|⟨x,k,rfl,hx⟩<;>rcases Jpl hs h2 with⟨rfl,rfl⟩|⟨y,k',rfl,hy⟩
 ·simp[Instr.sliceBounds]
 ·simp[Instr.sliceBounds,Instr.sliceBound,hy,asIntOf,hh]
 ·have hl':0<=l/\l<=(len:Int):=⟨e1,by omega⟩;simp[Instr.sliceBounds,Instr.sliceBound,hx,asIntOf,hl']
 have hl':l<=max h 0:=by omega
 simp[Instr.sliceBounds,Instr.sliceBound,hx,hy,asIntOf,hh,e1,hl']
theorem Cat.take{R:List Value->α->Prop}{sz:Nat}(hl:∀cs x,R cs x->cs.length=sz):∀(n:Nat) {cs:List Value} {xs:List α},Cat R cs xs->Cat R (cs.take (n*sz)) (xs.take n)
 |0,cs,xs,h=>by simp[Cat]
 |n+1,cs,[],h=>by simp only[Cat]at h;subst h;simp[Cat]
 |n+1,cs,x::xs,h=>by obtain⟨c1,c2,rfl,h1,h2⟩:=h;refine⟨c1,_, ?_,h1,Cat.take hl n h2⟩;rw[Nat.add_mul,Nat.one_mul,Nat.add_comm,<-hl _ _ h1,List.take_length_add_append]
def J9v{α:Type}(xs:List α)(l u:Int):List α:=(xs.take u.toNat).drop l.toNat
theorem K3r(h:J92 w ok (.slice e) [.slice ad (List.length xs) cap] xs)(hb:0<=l/\l<=u/\u<=(List.length xs:Int)):J92 w ok (.slice e) [.slice (if cap=l.toNat then ad else ad.map (·.add (l.toNat*e.size))) (u.toNat - l.toNat) (cap - l.toNat)] (J9v xs l u):=by
 obtain⟨ad',cap',hpk,hcap,hrow⟩:=h;cases hpk;have hlen:(J9v xs l u).length=u.toNat - l.toNat:=by unfold J9v;rw[List.length_drop,List.length_take];omega
 refine⟨_,_,by rw[hlen],by rw[hlen];omega, ?_⟩;by_cases he:J9v xs l u=[];·exact .inl he
 right;have hpos:=List.length_pos_iff.2 he;rcases hrow with rfl|⟨b,o,rfl,hok,hrow⟩;·simp[J9v]at he
 have hne:¬cap=l.toNat:=(by omega);rw[if_neg hne];refine⟨b,o+l.toNat*e.size,by simp[add_plain],hok,λi x hx=> ?_⟩;have hx':xs[l.toNat+i]? =some x:=(by unfold J9v at hx;grind);obtain⟨cs,h1,h2⟩:=hrow _ _ hx';grind
theorem Jvb(hl:∀cs x,R cs x->cs.length=sz)(h:Cat R cs xs)(hc:∀j,j<cs.length->w.cell? ⟨b,o+j,none⟩=cs[j]?):Jp6 w sz R b o xs:=by
 intro i x hx;have hi:i<xs.length:=by grind
 have h1:=Cat.at hl x h hi;grind
def Jds (T:Tab) (ss:List (Nat×J8e)) (h:List J8g) (tr:Bool) (t:Nat) (s:J8e) (lo hi:Option Operand):Option (List Prop×J8e×List J8g):=
 match T.ty t with
 | some .str=>match s with
  | .v .str x=>match Jbs ss lo 0,Jbs ss hi (List.length x:Int)with
   |some l,some u=>some ([0<=l/\l<=u/\u<=(List.length x:Int)],.v .str (J9v x l u),h)
   |_,_=>none
  |_=>none
 | some (.arr n e)=>match lo,hi with
  | none,none=>match s with
   | .ptr l p=>if(J8m h l).lay.at p=some (.arr n e)/\(J8m h l).isDead=false then
     match tr,J8m h l with
     |true,.box _ _ _=>some ([],.own l p,h)
     |_,_=>match (J8m h l).slot.get p with
      | .v (.arr n' e') x=>if n'=n/\e'=e then some ([],.v (.slice e') x,freezeIds h [l])else none
      |_=>none
    else none
   | .ref (.arr n' e') x=>if n'=n/\e'=e then some ([],.v (.slice e') x,h)else none
   |_=>none
  |_,_=>none
 | some (.slice e)=>match s with
  | .nil=>match Jbs ss lo 0,Jbs ss hi 0 with
   |some l,some u=>some ([l=0/\u=0],.nil,h)
   |_,_=>none
  | .v (.slice e') xs=>if e'=e then match Jbs ss lo 0,Jbs ss hi (List.length xs:Int)with
    |some l,some u=>some ([0<=l/\l<=u/\u<=(List.length xs:Int)],.v (.slice e') (J9v xs l u),h)
    |_,_=>none
   else none
  | .own l p=>match J99 (J8m h l) p with
   | some r=>if r.e=e then match Jbs ss lo 0,Jbs ss hi (List.length r.xs:Int)with
     | some z,some u=>match tr with
      |false=>some ([0<=z/\z<=u/\u<=(List.length r.xs:Int)],.v (.slice r.e) (J9v r.xs z u),freezeIds h [l])
      |true=>match p,J8m h l with
       |[],.row e2 xs true=>some ([z=0/\0<=u/\u<=(List.length xs:Int)],.own h.length [],h.set l .dead++[.row e2 (xs.take u.toNat) true])
       |_,_=>none
     |_,_=>none
    else none
   |none=>none
  |_=>none
 |_=>none
theorem Jk1(hT:J9a P T)(ht:T.ty t=some (.arr n e)) w (hv:v= .pointer (some a)) (hp:a.spot=none):(Instr.sliceAt t v none none none).run P w= .ok (.slice (some a) n n) w:=by
 obtain⟨te,by_,hu,hI⟩:=Jyj hT ht w;subst hv;have:a.add 0=a:=by obtain⟨b,o,sp⟩:=a;subst hp;rw[add_plain,Nat.add_zero]
 simp[Instr.sliceAt,hu,Instr.sureAddr,Instr.sliceBounds,hI.run_size,this]
theorem Jc7(hT:J9a P T)(ht:T.ty t=some (.slice e))(hs:SRG c G st a w){len cap:Nat}(h1:Jbs st.slots lo 0=some l)(h2:Jbs st.slots hi (len:Int)=some u)(hb:0<=l/\l<=u/\u<=(cap:Int))(hv:v= .slice ad len cap):(Instr.sliceAt t v (lo.map a.eval) (hi.map a.eval) none).run P w= .ok (.slice (if cap=l.toNat then ad else ad.map (·.add (l.toNat*e.size))) (u.toNat - l.toNat) (cap - l.toNat)) w:=by obtain⟨te,by_,hu,_,hI⟩:=Jdi hT ht w;subst hv;simp only[Instr.sliceAt,Sem.run_bind,hu,Result.andThen_ok,Instr.slice,Jqm hs h1 h2 hb,hI.run_size,Sem.run_pure]
theorem Jkq (hT:J9a P T) {lo hi:Option Operand} {tr:Bool} {s:J8e} {h':List J8g} {ps:List Prop} (hop:o.op= .slice t x lo hi none) (he:Jds T st.slots st.heap tr t (J9d st.slots x) lo hi=some (ps,s,h')) (hps:Jb2 ps):VOp P o st s h':=by
 intro c G a w hs;have hv:=J8s hs x;have hh:=hs.toHRG;have run:∀v,(Instr.sliceAt t (a.eval x) (lo.map a.eval) (hi.map a.eval) none).run P w= .ok v w->(execOp a.eval o).run P w= .ok (.value v) w:=by intro v hr;simp[execOp,hop,hr]
 have same:∀v s',(execOp a.eval o).run P w= .ok (.value v) w->J9e G w (okB c G st.heap w) s' v->
   ∃v w' G',((execOp a.eval o).run P w= .ok (.value v) w'\/((execOp a.eval o).run P w= .ok .skip w'/\s'= .undef))/\
   HRG c G' st.heap w'/\Ext G G'/\J9c w w' (okB c G st.heap w) (okB c G' st.heap w')/\J9e G' w' (okB c G' st.heap w') s' v:=
  λv s' h1 h2=>⟨v,w,G,.inl h1,hh,Ext.refl G,J9c.refl _ _,h2⟩
 unfold Jds at he;split at he
 ·rename_i hty;split at he
  ·rename_i y hx;split at he;·rename_i l u hl hu;cases he;obtain⟨hb,_⟩:=hps;rw[hx]at hv;have hv:=Jlw hv;obtain⟨by_,hg⟩:=Tab.ty_get hty;obtain⟨d,hd,hD⟩:=(hT _ _ _ hg).run_under w;simp only[Ja9]at hD;subst hD;refine same _ _ (run (.string ⟨(J9v y l u).toArray⟩) ?_) (K0k _);have hsz:=size_mk y;have hb2:=Jqm (P:=P) (sl:=false) (len:=List.length y) (cap:=List.length y) hs hl hu hb;simp only[Instr.sliceAt,Sem.run_bind,hd,Result.andThen_ok,Instr.slice,hv,Option.isSome_none,Bool.false_eq_true,if_false,Sem.run_pure,hsz,hb2];have hex:(⟨y.toArray⟩:ByteArray).extract l.toNat u.toNat=⟨(J9v y l u).toArray⟩:=(by apply ByteArray.ext;rw[ByteArray.data_extract];simp[J9v,List.drop_take]);rw[hex]
   cases he
  cases he
 ·rename_i n e hty;split at he
  ·split at he
   ·rename_i l p hx;split at he
    ·rename_i hc;rw[hx]at hv;obtain⟨g,b,off,cs,U,hg,hb,hpk,hheap,hp,hrel,hle,hlay,_⟩:=Jcv hh (Jde hc.2) hc.1 hc.2 hv;have hr:=run _ (Jk1 hT hty w hpk rfl);split at he;·rename_i t0 s0 lv hob;cases he;refine same _ _ hr ?_;have hobj:=hh.objs l _ g (Jde hc.2) hg;rw[hob]at hobj;have hk:=hobj.1;refine⟨.slice e,_,⟨g,_,hg,rfl,.inr ⟨hk,b,off,n,e,hb, ?_,rfl,rfl⟩⟩,rfl⟩;rw[<-hlay]at hp;simpa[GE.lay,hk]using hp
     split at he
     ·rename_i n' e' y hy;split at he;·rename_i hne;obtain⟨rfl,rfl⟩:=hne;cases he;obtain⟨h1,k⟩:=hh.freezeIds [l];refine⟨_,w,G,.inl hr,h1,Ext.refl G,k, ?_⟩;have h6:=J8e.get_ok hrel hp;rw[hy]at h6;obtain⟨_,h7⟩:=h6;have hn:List.length y=n':=h7.1;have hle2:=Jaq.le hp;rw[Jcr hle2]at h7;have hcat:Cat (J92 w (okB c G st.heap w) e') ((cs.toList.drop off).take (List.length y*e'.size)) y:=(by rw[hn];exact h7.2);have hrow:=Jfb hheap (λcs x=>J92.len e') hcat;have hokb:okB c G (freezeIds st.heap [l]) w b:=Jua hh (Jde hc.2) hg hc.2 hb (List.mem_cons_self ..);have:=Jp6.mono (ok:=λz=>z=b) (ok':=okB c G (freezeIds st.heap [l]) w) (w:=w) (w':=w) ⟨λz hz=>by rw[hz];exact hokb,λ_ _ _ _ h=>h⟩ (λcs x h=>J92.mono k e' h) rfl hrow;exact⟨.slice e',_,⟨rfl,_,n',by rw[hn],by rw[hn];exact Nat.le_refl _,.inr ⟨b,off,rfl,hokb,this⟩⟩,rfl⟩
      cases he
     cases he
    cases he
   ·rename_i n' e' y hx;split at he;·rename_i hne;obtain⟨rfl,rfl⟩:=hne;injection he with he;injection he with e1 e2;injection e2 with e2 e3;subst e1;subst e2;subst e3;rw[hx]at hv;obtain⟨tt,cs,⟨rfl,b,off,cs',rfl,hok,hrep,hcell⟩,hpk⟩:=hv;have hpk:a.eval x= .pointer (some ⟨b,off,none⟩):=hpk;refine same _ _ (run _ (Jk1 hT hty w hpk rfl)) ?_;obtain⟨hn,hcat⟩:=hrep;refine⟨.slice e',_,⟨rfl,_,n',by rw[hn],by rw[hn];exact Nat.le_refl _,.inr ⟨b,off,rfl,hok, ?_⟩⟩,rfl⟩;exact Jvb (λcs x=>J92.len e') hcat hcell
    cases he
   cases he
  cases he
 ·rename_i e hty;split at he
  ·rename_i hx;split at he;·rename_i l u hl hu;cases he;obtain⟨⟨hl0,hu0⟩,_⟩:=hps;subst hl0;subst hu0;rw[hx]at hv;obtain⟨tt,cs,⟨⟨e',rfl⟩,rfl⟩,hpk⟩:=hv;have hpk:a.eval x= .slice none 0 0:=hpk;have:=Jc7 (P:=P) (len:=0) (cap:=0) hT hty hs hl hu (by omega) hpk;exact same _ _ (run _ this) ⟨.slice e',_,⟨⟨e',rfl⟩,rfl⟩,rfl⟩
   cases he
  ·rename_i e' xs hx;split at he
   ·rename_i hee;subst hee;split at he;·rename_i l u hl hu;cases he;obtain⟨hb,_⟩:=hps;rw[hx]at hv;obtain⟨tt,cs,⟨rfl,hrep⟩,hpk⟩:=hv;obtain⟨ad,cap,rfl,hcap,hrow⟩:=hrep;have hpk:a.eval x= .slice ad (List.length xs) cap:=hpk;have:=Jc7 (P:=P) hT hty hs hl hu ⟨hb.1,hb.2.1,by omega⟩ hpk;exact same _ _ (run _ this) ⟨.slice e',_,⟨rfl,K3r ⟨ad,cap,rfl,hcap,hrow⟩ hb⟩,rfl⟩
    cases he
   cases he
  ·rename_i l p hx;split at he
   ·rename_i r hr;split at he
    ·rename_i hee;subst hee;split at he
     ·rename_i z u hl hu;rw[hx]at hv;split at he;·cases he;obtain⟨hb,_⟩:=hps;obtain⟨h1,k⟩:=hh.freezeIds [l];have has:Jad st.heap (.slice r.e) (.own l p)=some r.xs:=(by simp[Jad,hr,cast?]);obtain⟨cs,hrep,hpk⟩:=Jbw (ids:=[l]) hh (by simp[J8e.ids]) has hv;obtain⟨ad,cap,rfl,hcap,hrow⟩:=hrep;have hpk:a.eval x= .slice ad (List.length r.xs) cap:=hpk;have:=Jc7 (P:=P) hT hty hs hl hu ⟨hb.1,hb.2.1,by omega⟩ hpk;exact⟨_,w,G,.inl (run _ this),h1,Ext.refl G,k,⟨.slice r.e,_,⟨rfl,K3r ⟨ad,cap,rfl,hcap,hrow⟩ hb⟩,rfl⟩⟩
      split at he
      ·rename_i e2 xs hob;cases he;obtain⟨⟨hz,hu0,hul⟩,_⟩:=hps;subst hz;have hmax:r=⟨e2,xs⟩:=(by rw[hob]at hr;simp only[J99,Option.some.injEq]at hr;exact hr.symm);subst hmax;have hlive:(J8m st.heap l).live=true:=(by rw[hob];rfl);obtain⟨g,hg,hd,ho,hcase⟩:=Jdv hh hr hv;have hobj:=hh.objs l _ g ho hg;rw[hob]at hobj;obtain⟨q1,q2,q3,q4,q5⟩:=hobj;have hval:a.eval x= .slice (g.blk.map λb=>⟨b,0,none⟩) g.n g.cap:=by
        obtain⟨t,cs0,⟨g',u',hg',rfl,hu'⟩,hpk2⟩:=hv;rw[hg]at hg';injection hg' with hg';subst hg';rcases hu' with⟨_,_,rfl,rfl⟩|⟨hk,_⟩;·exact hpk2
        rw[q1]at hk;cases hk
       have hu':Jbs st.slots hi (g.n:Int)=some u:=(by rw[q3];exact hu);have hrun:=run _ (Jc7 (P:=P) hT hty hs hl hu' ⟨by omega,hu0,by omega⟩ hval);have hlen:List.length (xs.take u.toNat)=u.toNat:=(by rw[List.length_take];omega);simp only[Int.toNat_zero,Nat.zero_mul,Nat.sub_zero]at hrun;rcases q5 with⟨hb0,hc0⟩|⟨b,cs,U,hb,hheap,hsz,hrep⟩;·obtain⟨hk1,kk1⟩:=hh.kill ho;have hu00:u.toNat=0:=(by omega);obtain⟨r1,r2,r3⟩:=Jo4 hk1 e2;rw[hu00,List.take_zero];rw[hb0,hc0,hu00]at hrun;refine⟨_,_,_,.inl hrun,r1,Ext.snoc _ _,J9c.trans kk1 r2, ?_⟩;rw[List.length_set]at r3;exact r3 _
       have hwr:Wrote w w b cs U:=⟨hheap,λ_ _=>rfl,rfl,rfl,rfl,rfl⟩;have hrw:(if g.cap=0 then g.blk.map (λb=>(⟨b,0,none⟩:Addr))else(g.blk.map λb=>(⟨b,0,none⟩:Addr)).map (·.add 0))=some ⟨b,0,none⟩:=(by rw[hb];split<;>simp[add_plain]);rw[hrw]at hrun;obtain⟨r1,r2⟩:=hh.heir (o':=.row e2 (xs.take u.toNat) true) (g':=⟨.row,some b,e2,u.toNat,g.cap⟩) ho hg hlive hb rfl hwr (λok' k=>by refine⟨rfl,rfl,hlen.symm,(show u.toNat<=g.cap by omega),.inr ⟨b,cs,U,rfl,hheap,hsz, ?_⟩⟩;refine⟨hlen, ?_⟩;have h1:=Cat.mono (λ_ _=>J92.mono k e2) hrep.2;have h2:=Cat.take (λcs x=>J92.len e2) u.toNat h1;rw[List.take_take,Nat.min_eq_left (Nat.mul_le_mul_right _ (by omega))]at h2;exact h2) rfl
       refine⟨_,_,_,.inl hrun,r1,Ext.snoc _ _,r2, ?_⟩;refine⟨.slice e2,_,⟨⟨.row,some b,e2,u.toNat,g.cap⟩,_, ?_,rfl,.inl ⟨rfl,rfl,rfl,rfl⟩⟩,rfl⟩;rw[<-hh.len];simp
      cases he
     cases he
    cases he
   cases he
  cases he
 cases he
def Jij(T:Tab)(h:List J8g)(t:Nat)(l c:J8e):Option (List Prop×J8e×List J8g):=
 match T.ty t with
 |some (.slice e)=>match e.pure,l,c with
  |true,.v (.int .i64) l,.v (.int .i64) c=>some ([(0:Int)<=l/\l<=c/\c<=(2147483648:Int)],.own h.length [],h++[.row e (List.replicate (Int.toNat l) e.zero) true])
  |_,_,_=>none
 |_=>none
theorem Jga(z:Array Value)(n:Nat):(madeCells z (n*z.size)).toList=(List.replicate n z.toList).flatten:=by have:madeCells z (n*z.size)=Builtin.zeroCells z n:=rfl;rw[this,Jgd]
theorem K78(h:n<=m):((List.replicate m cs).flatten).take (n*cs.length)=(List.replicate n cs).flatten:=by obtain⟨k,rfl⟩:=Nat.exists_eq_add_of_le h;rw[<-List.replicate_append_replicate,List.flatten_append,List.take_append_of_le_length (by simp),List.take_of_length_le (by simp)]
theorem Jpa(hT:J9a P T)(hop:o.op= .makeSlice t x y)(he:Jij T st.heap t (J9d st.slots x) (J9d st.slots y)=some (ps,s,h'))(hps:Jb2 ps):VOp P o st s h':=by
 intro c G a w hs;have hx:=J8s hs x;have hy:=J8s hs y;have hh:=hs.toHRG;unfold Jij at he;split at he
 ·rename_i e hty;split at he;·rename_i ts tl tc l cc hp hl hc;cases he;obtain⟨⟨h0,h1,h2⟩,_⟩:=hps;rw[hl]at hx;rw[hc]at hy;have hx:=Jgf hx;have hy:=Jgf hy;obtain⟨te,by_,hu,hg2,hI⟩:=Jdi hT hty w;obtain⟨b0,hg⟩:=Tab.ty_get hty;obtain⟨d,hd,te',hdd,hte'⟩:=(hT _ _ _ hg).desc;have hte:te'=te:=(by subst hdd;simp[underlying,hd]at hu;exact hu);subst hte;subst hdd;obtain⟨i,z,hi,hsz,hby,hz,hzc⟩:=hI.zero_cells hp;have hzs:z.cells.size=i.size:=(by rw[<-Array.length_toList,hzc,Jae,hsz]);have hbb:i.bytes<=65536:=(by rw[hby];exact hI.small);obtain⟨m,rfl⟩:=Int.eq_ofNat_of_zero_le h0;obtain⟨n,rfl⟩:=Int.eq_ofNat_of_zero_le (show(0:Int)<=cc from Int.le_trans h0 h1);have h1:(m:Int)<=(n:Int):=h1;have h2:(n:Int)<=(2147483648:Int):=h2;have hb3:((i.bytes:Nat):Int)*(n:Int)<=281474976710656:=(by have:=Jj2 (show n<=2147483648 by omega) hbb;grind);have hr:=run_make (P:=P) w t te' i z hd hi hz .i64 .i64 (m:Int) (n:Int) (by omega) h1 hb3 (by omega);simp only[Int.toNat_natCast]at hr⊢;have hlen:List.length (List.replicate m e.zero)=m:=(by simp);have hC:(madeCells z.cells (n*i.size)).toList=(List.replicate n (J9h e)).flatten:=(by rw[<-hzs,Jga,hzc]);obtain⟨r1,r2,r3⟩:=Jxl hh rfl rfl rfl rfl (zs:=List.replicate m e.zero) (C:=madeCells z.cells (n*i.size)) te' (cap:=n) (by rw[hlen];omega) (by rw[size_madeCells,hsz];exact Nat.le_refl _) (by rw[hlen,hC,<-Jae e,K78 (by omega)];exact⟨by simp,Jb9 (Jea w _ e hp) m⟩);rw[hlen]at r1 r2 r3;refine⟨_,_,_,.inl ?_,r1,Ext.snoc _ _,r2,r3 _⟩;simp only[execOp,hop];simp_all
  cases he
 cases he
end Go.Ax

namespace Go.Ax
variable {P : Program} {T : Tab}
def K45 (T:Tab) (h:List J8g) (t:Nat) (s x:J8e):Option (J8e×List J8g):=
 match T.ty t with
 | some (.slice e)=>match s with
  | .own l p=>match J99 (J8m h l) p with
   | some r=>if r.e=e then match Jrm h r.e x with
     |some ys=>match (J8m h l).put p (.v (.arr (List.length r.xs) r.e) (ys.take (List.length r.xs)++r.xs.drop (List.length ys)))with
      |some o'=>some (.v (.int .i64) ((Nat.min (List.length ys) (List.length r.xs):Nat):Int),h.set l o')
      |none=>none
     |none=>none
    else none
   |none=>none
  |_=>none
 |_=>none
theorem K49(hh:HRG c G h w)(hx:Jrm h e x=some ys)(hv:J9e G w (okB c G h w) x v):∃ns,Jhx P w e.size v (List.length ys) ns/\J92 w (okB c G h w) (.arr (List.length ys) e) ns ys:=by
 by_cases hs:∃z,x= .v .str z
 ·obtain⟨z,rfl⟩:=hs;simp only[Jrm,K74]at hx;split at hx;·cases hx;exact Ju4 hv
  cases hx
 obtain⟨ns,_,_,h1,h2,_⟩:=Jik hh hx (λz hz=>hs ⟨z,hz⟩) hv
 exact⟨ns,h1,h2⟩
theorem K5k(hh:HRG c G h w)(hr:J99 (J8m h l) p=some r)(hv:J9e G w (okB c G h w) (.own l p) v):∃g,G[l]? =some g/\h[l]? =some (J8m h l)/\((g.blk=none/\r.xs=[]/\v= .slice none 0 0)\/ ∃b off cs U cap,g.blk=some b/\v= .slice (some ⟨b,off,none⟩) (List.length r.xs) cap/\w.heap[b]? =some (.cells cs U (0,0))/\ Jaq (J8m h l).lay p off (.arr (List.length r.xs) r.e)/\J90 G w (okB c G h w) (J8m h l).slot (J8m h l).lay (cs.toList.take (J8m h l).lay.size)/\(J8m h l).lay.size<=cs.size/\ (∀e xs lv,J8m h l= .row e xs lv->g.cap*e.size<=cs.size/\g.n=List.length xs/\g.n<=g.cap)/\(∀t s lv,J8m h l= .box t s lv->cs.size=t.size)/\ J92 w (okB c G h w) (.arr (List.length r.xs) r.e) ((cs.toList.drop off).take (List.length r.xs*r.e.size)) r.xs):=by
 obtain⟨g,hg,hd,ho,hcase⟩:=Jdv hh hr hv;refine⟨g,hg,ho, ?_⟩;rcases hcase with⟨h1,h2,h3,_⟩|⟨b,off,cs,U,cap,hb,hpk,hcap,hheap,hp,hk,hrep⟩;·exact .inl ⟨h1,h2,h3⟩
 right;have hptr:J9e G w (okB c G h w) (.ptr l p) (.pointer (some ⟨b,off,none⟩)):=⟨.ptr,_,⟨rfl,g,_,hg,rfl,hk,b,off,_,hb,hp,rfl⟩,rfl⟩;have hlay:g.lay=(J8m h l).lay:=by
  have hobj:=hh.objs l _ g ho hg;generalize J8m h l=o at*
  cases o with|row e xs lv=>simp[GE.lay,J8g.lay,hobj.1,hobj.2.1,hobj.2.2.1]|box t s lv=>simp[GE.lay,J8g.lay,hobj.1,hobj.2.1]|map _ _ _ _=>exact absurd hobj.1 hk|dead=>cases hd
 rw[hlay]at hp;obtain⟨g',b',off',cs',U',hg',hb',hpk',hheap',hp',hrel,hle,hlay',hrow,hbox⟩:=Jcv hh ho (Jaq.at_eq hp) hd hptr;grind
theorem Cat.drop{R:List Value->α->Prop}{sz:Nat}(hl:∀cs x,R cs x->cs.length=sz):∀(n:Nat) {cs:List Value} {xs:List α},Cat R cs xs->Cat R (cs.drop (n*sz)) (xs.drop n)
 |0,cs,xs,h=>by simpa using h
 |n+1,cs,[],h=>by simp only[Cat]at h;subst h;simp[Cat]
 |n+1,cs,x::xs,h=>by obtain⟨c1,c2,rfl,h1,h2⟩:=h;rw[List.drop_succ_cons,Nat.add_mul,Nat.one_mul,Nat.add_comm,<-hl _ _ h1,List.drop_length_add_append];rw[hl _ _ h1];exact Cat.drop hl n h2
theorem Jsw(h:a.length<=n)(hn:o+n<=cs.length):splice cs o (a++((cs.drop o).take n).drop a.length)=splice cs o a:=by
 have hl:(a++((cs.drop o).take n).drop a.length).length=n:=by grind
 unfold splice;rw[hl];simp only[List.append_assoc];congr 2;have:cs.drop (o+a.length)=(cs.drop o).drop a.length:=by rw[List.drop_drop]
 rw[this];conv=>rhs;rw[<-List.take_append_drop n (cs.drop o)]
 rw[List.drop_append_of_le_length (by rw[List.length_take,List.length_drop];omega),List.drop_drop]
theorem K3k(hs:Jhx P w size v m ns)(ht:at_[0]? =some t)(hu:(underlying t).run P w= .ok (.slice te) w)(hz:(sizeOf te).run P w= .ok size w):(Builtin.copy_ at_ ty #[.slice none 0 0,v]).run P w= .ok (.int .i64 0) w:=by have h0:Nat.min m 0=0:=Nat.min_zero m;have:=hs.pre 0 (Nat.zero_le _);simp[Builtin.copy_,ht,hu,hs.len,hz,h0,this,goInt]
theorem K46 (hT:J9a P T) {x y:Operand} {cl:Call} {s:J8e} {h':List J8g} (hop:o.op= .call cl) (hc:cl.callee= .builtin .copy) (hargs:cl.args= #[x,y]) (ht:cl.argTypes[0]? =some t) (he:K45 T st.heap t (J9d st.slots x) (J9d st.slots y)=some (s,h')):VOp P o st s h':=by
 have run:∀(a:Act) (w:World) v w',(Builtin.copy_ cl.argTypes o.type #[a.eval x,a.eval y]).run P w= .ok v w'->(execOp a.eval o).run P w= .ok (.value v) w':=by intro a w v w' hr;simp[execOp,hop,resolve,hc,hargs,invoke,builtin,hr]
 intro c G a w hs;have hv:=J8s hs x;have hy:=J8s hs y;have hh:=hs.toHRG;unfold K45 at he;split at he
 ·rename_i e hty;obtain⟨te,by_,hu,_,hI⟩:=Jdi hT hty w;split at he
  ·rename_i l p hx;split at he
   ·rename_i r hr;split at he
    ·rename_i hee;subst hee;split at he
     ·rename_i ys hys;split at he
      ·rename_i o' hput;cases he;rw[hx]at hv;obtain⟨ns,hsrc,hrep⟩:=K49 (P:=P) hh hys hy;obtain⟨g,hg,ho,hcase⟩:=K5k hh hr hv;have hlive:=(J8g.put_live hput).1;rcases hcase with⟨hb0,hnil,hpk⟩|⟨b,off,cs,U,cap,hb,hpk,hheap,hp,hrel,hle,hrow,hbox,hrep2⟩
       ·have hobj:=hh.objs l _ g ho hg;have hsame:o'=J8m st.heap l:=by
         generalize J8m st.heap l=ob at*
         cases ob with
         |row e xs lv=>cases p with|cons _ _=>simp[J99]at hr|nil=>simp only[J99,Option.some.injEq]at hr;subst hr;have hnil:xs=[]:=hnil;subst hnil;simp only[J8g.live]at hlive;subst hlive;simp only[J8g.put,J8e.set,List.length_nil,List.take_zero,List.drop_nil,List.append_nil]at hput;simp[cast?]at hput;exact hput.symm
         |box t s lv=>obtain⟨_,_,b,_,_,hb,_⟩:=hobj;rw[hb0]at hb;cases hb
         |map _ _ _ _=>simp[J99]at hr
         |dead=>simp[J99]at hr
        have hset:st.heap.set l o'=st.heap:=by
         rw[hsame];apply List.ext_getElem?;intro k;rw[Jgv ho];split;·rename_i h;rw[h];exact ho.symm
         rfl
        have hmin:Nat.min (List.length ys) (List.length r.xs)=0:=(by rw[hnil];exact Nat.min_zero _);rw[hset,hmin];refine⟨_,w,G,.inl (run a w _ _ (by rw[hpk];exact K3k hsrc ht hu (hI.run_size w))),hh,Ext.refl G,J9c.refl _ _,Jaf .i64 (0:Int)⟩
       have hnl:=J92.len _ hrep;simp only[Ty.size]at hnl;have hol:=J92.len _ hrep2;simp only[Ty.size]at hol;have hn:Nat.min (List.length ys) (List.length r.xs)<=List.length ys:=Nat.min_le_left _ _;have hn2:Nat.min (List.length ys) (List.length r.xs)<=List.length r.xs:=Nat.min_le_right _ _;have hfc:=hsrc.pre (Nat.min (List.length ys) (List.length r.xs)) hn;have hple:=Jaq.le hp;simp only[Ty.size]at hple;have hmin:Nat.min (List.length ys) (List.length r.xs)=min (List.length ys) (List.length r.xs):=rfl;generalize hk:Nat.min (List.length ys) (List.length r.xs)=k at*
       have hkl:(ns.take (k*r.e.size)).length=k*r.e.size:=(by rw[List.length_take,hnl];have:=Nat.mul_le_mul_right r.e.size hn;omega);have hkx:k*r.e.size<=List.length r.xs*r.e.size:=Nat.mul_le_mul_right _ hn2;have hone:∀u∈ns.take (k*r.e.size),u.oneCell'=true:=λu hu=>J92.cells _ hrep u (List.mem_of_mem_take hu);obtain⟨w',arr',hst,hwr,hsp⟩:=Jcp (P:=P) b off (ns.take (k*r.e.size)) 0 w cs hheap (by rw[hkl];omega) hone;have hzs:ys.take (List.length r.xs)++r.xs.drop (List.length ys)=ys.take k++r.xs.drop k:=by
        rcases Nat.le_total (List.length ys) (List.length r.xs)with h|h;·have:k=List.length ys:=(by omega);rw[this,List.take_of_length_le h,List.take_length]
        have:k=List.length r.xs:=(by omega);rw[this,List.drop_of_length_le h,List.drop_length]
       have hzl:(ys.take (List.length r.xs)++r.xs.drop (List.length ys)).length=List.length r.xs:=(by rw[List.length_append,List.length_take,List.length_drop];omega);have hnew:J90 G w (okB c G st.heap w) (.v (.arr (List.length r.xs) r.e) (ys.take (List.length r.xs)++r.xs.drop (List.length ys))) (.arr (List.length r.xs) r.e) (ns.take (k*r.e.size)++((cs.toList.drop off).take (List.length r.xs*r.e.size)).drop (ns.take (k*r.e.size)).length):=(by refine⟨rfl,hzl, ?_⟩;rw[hzs,hkl];exact Cat.append (Cat.drop (λcs x=>J92.len r.e) k hrep2.2) (Cat.take (λcs x=>J92.len r.e) k hrep.2));obtain⟨r1,r2,r3⟩:=Jv1 hh ho hput hnew hg hb hp hrel hle hrow hbox hwr (by rw[Nat.add_zero]at hsp;rw[hsp,Jsw (by rw[hkl];exact hkx) (by simp;omega)]);refine⟨.int .i64 (k:Int),w',G,.inl (run a w _ _ ?_),r1,Ext.refl G,by rw[r2];exact r3,Jaf .i64 (k:Int)⟩;rw[hpk];have hst':(storeCells ⟨b,off,none⟩ (ns.take (k*r.e.size))).run P w= .ok () w':=hst;simp[Builtin.copy_,ht,hu,hsrc.len,hI.run_size,hk,hfc,hst',goInt]
      cases he
     cases he
    cases he
   cases he
  cases he
 cases he
end Go.Ax

namespace Go.Ax
variable {P : Program} {T : Tab}
theorem Jnb(off:Nat):∀(vs:List Value) (k:Nat) (cells:Array Value),off+k+vs.length<=cells.size->
  ((vs.zipIdx k).foldl (λ(cs:Array Value) (x:Value×Nat)=>cs.setIfInBounds (off+x.2) x.1) cells).toList=splice cells.toList (off+k) vs
 |[],k,cells,_=>by simp[splice]
 |v::vs,k,cells,h=>by simp at h;rw[List.zipIdx_cons,List.foldl_cons,Jnb off vs (k+1) _ (by rw[Array.size_setIfInBounds];omega),Jqq _ _ _ (by omega),<-Nat.add_assoc off k 1,Jk6];omega
theorem Jza(off:Nat)(v:Value)(vs:List Value)(hv:v.cells.toList=vs)(cells:Array Value)(h:off+vs.length<=cells.size):(v.cells.zipIdx.foldl (λ(cs:Array Value) (x:Value×Nat)=>cs.setIfInBounds (off+x.2) x.1) cells).toList=splice cells.toList off vs:=by have:=Jnb off vs 0 cells (by omega);rw[Nat.add_zero]at this;rw[<-this,<-Array.foldl_toList,Array.toList_zipIdx,hv]
def stepOf:Ty->Nat->Option (Step×Ty)
 | .arr n e,i=>if i<n then some (.idx i,e)else none
 | .fld a r,i=>match (Ty.fld a r).field i with|some (_,t)=>some (.fld i,t)|none=>none
 |_,_=>none
def K18(h:List J8g)(ss:List (Nat×J8e))(ty:Ty):List (Nat×Operand)->J8e->Option J8e
 |[],s=>some s
 |(i,x)::r,s=>match stepOf ty i with|some (st,t)=>if fits h (J9d ss x) t=true then K18 h ss ty r (s.set [st] (J9d ss x))else none|none=>none
theorem Jrs(hs:SRG c G st a w)
  (hpl:∀i sp t,stepOf ty i=some (sp,t)->∃off,place i=some (off,t.size)/\Jaq ty [sp] off t):
  ∀(parts:List (Nat×Operand)) (s s':J8e) (cells:Array Value),J90 G w (okB c G st.heap w) s ty cells.toList->K18 st.heap st.slots ty parts s=some s'->
   ∃cells',Instr.fill place cells (parts.map λx=>(x.1,a.eval x.2))=some cells'/\J90 G w (okB c G st.heap w) s' ty cells'.toList
 |[],s,s',cells,h,he=>by injection he with he;subst he;exact⟨cells,rfl,h⟩
 | (i,x)::r,s,s',cells,h,he=>by
  unfold K18 at he;split at he
  ·rename_i sp t hst;split at he;·rename_i hf;obtain⟨off,h1,h2⟩:=hpl i sp t hst;obtain⟨cs,h3,h4,h5⟩:=Jrv hs.toHRG hf (J8s hs x);have hl:=J90.len _ h3;have hcl:=J90.len _ h;rw[Array.length_toList]at hcl;have hv:(a.eval x).cells.toList=cs:=(by rw[h4];exact pack_cells hl (J90.cells _ h5 h3));have hle:=Jaq.le h2;have hfo:=Jza off (a.eval x) cs hv cells (by rw[hl];omega);obtain⟨cells',h6,h7⟩:=Jrs hs hpl r (s.set [sp] (J9d st.slots x)) s' _ (by rw[hfo];exact J8e.set_ok h h2 h3) he;simp only[List.map_cons,Instr.fill,h1];grind
   cases he
  cases he
def Jrc(T:Tab)(ss:List (Nat×J8e))(h:List J8g)(t:Nat)(parts:Array (Nat×Operand)):Option (J8e×List J8g):=
 match T.ty t with
 | some ty=>if ty.isAgg then match K18 h ss ty parts.toList (Jkf ty)with
   |some s=>some (told h ty s)
   |none=>none
  else none
 |none=>none
def Jm3(T:Tab)(ss:List (Nat×J8e))(h:List J8g)(t:Nat)(parts:Array (Nat×Operand)):Option J8e:=
 match T.ty t with
 |some ty=>if ty.isAgg then K18 h ss ty parts.toList (Jkf ty)else none
 |none=>none
theorem run_places(hT:J9a P T) w:∀{fs:List Field} {ty:Ty} {o:Nat},Jco T fs ty o->
  ∃places,(fs.mapM λf=>Prod.mk f.offset<$>sizeOf f.type).run P w= .ok places w/\
   ∀(i o1:Nat) (t:Ty),ty.field i=some (o1,t)->places[i]? =some (o+o1,t.size)
 |[],.unit,o,_=>⟨[],by simp,λi o1 t h=>by cases i<;>simp[Ty.field]at h⟩
 |f::fs,.fld a r,o,hF=>by
  obtain⟨h1,h2,h3⟩:=hF;obtain⟨places,h4,h5⟩:=run_places hT w h3;obtain⟨by_,hg⟩:=Tab.ty_get h1;have hsz:=(hT _ _ _ hg).run_size w;refine⟨(o,a.size)::places,by simp[hsz,h4,h2],λi o1 t h=> ?_⟩;cases i with
  |zero=>obtain⟨rfl,rfl⟩:=h;rfl
  |succ i=>simp only[Ty.field]at h;grind
 |[],.int _,_,hF=>hF.elim
 |[],.bool,_,hF=>hF.elim
 |[],.str,_,hF=>hF.elim
 |[],.flt,_,hF=>hF.elim
 |[],.cplx,_,hF=>hF.elim
 |[],.ptr,_,hF=>hF.elim
 |[],.mp,_,hF=>hF.elim
 |[],.fn,_,hF=>hF.elim
 |[],.arr _ _,_,hF=>hF.elim
 |[],.slice _,_,hF=>hF.elim
 |[],.fld _ _,_,hF=>hF.elim
 |_::_,.unit,_,hF=>hF.elim
 |_::_,.int _,_,hF=>hF.elim
 |_::_,.bool,_,hF=>hF.elim
 |_::_,.str,_,hF=>hF.elim
 |_::_,.flt,_,hF=>hF.elim
 |_::_,.cplx,_,hF=>hF.elim
 |_::_,.ptr,_,hF=>hF.elim
 |_::_,.mp,_,hF=>hF.elim
 |_::_,.fn,_,hF=>hF.elim
 |_::_,.arr _ _,_,hF=>hF.elim
 |_::_,.slice _,_,hF=>hF.elim
theorem Jn2(hT:J9a P T)(hop:o.op= .build t parts)(he:Jm3 T st.slots st.heap t parts=some s):VOp P o st s st.heap:=by
 unfold Jm3 at he;split at he
 ·rename_i ty hty;split at he
  ·rename_i hag;have hfill:=he;refine VOp.pure λc G a w hs=> ?_;obtain⟨by_,hg⟩:=Tab.ty_get hty;have hI:=hT _ _ _ hg;have hz:=hI.run_zero (by rintro rfl;cases hag) (by rintro rfl;cases hag) w;have hzc:=pack_cells (Jae ty) (Jb8 ty);obtain⟨d,hd,hD⟩:=hI.run_under w;have hstart:J90 G w (okB c G st.heap w) (Jkf ty) ty (pack ty (J9h ty)).cells.toList:=(by rw[hzc];exact Jhg G w _ ty);have fin:∀cells',J90 G w (okB c G st.heap w) s ty cells'.toList->J9e G w (okB c G st.heap w) s (.agg cells'):=(by intro cells' h;have:=J9e.of h;rwa[pack,if_pos hag]at this);cases ty with
   | arr n e=>
    obtain⟨te,rfl,hte⟩:=hD;obtain⟨b2,hg2⟩:=Tab.ty_get hte;have hse:=(hT _ _ _ hg2).run_size w;obtain⟨cells',h1,h2⟩:=Jrs hs (place:=λi=>some (i*e.size,e.size)) (λi sp t h=>by
     simp only[stepOf]at h;split at h;·rename_i hi;cases h;exact⟨_,rfl,n,e,0,rfl,hi,⟨rfl,rfl⟩,by omega⟩
     cases h) parts.toList (Jkf (.arr n e)) s _ hstart hfill
    refine⟨_, ?_,fin _ h2⟩;have h1':Instr.fill (λi=>some (i*e.size,e.size)) (pack (.arr n e) (J9h (.arr n e))).cells ((parts.map λx=>(x.1,a.eval x.2)).toList)=some cells':=(by rw[Array.toList_map];exact h1);simp only[execOp,hop,Instr.build,Sem.run_bind,hz,hd,Result.andThen_ok,hse,h1',Sem.run_pure]
   | fld a' r'=>
    obtain⟨fs,rfl,hF⟩:=hD;obtain⟨places,hp1,hp2⟩:=run_places hT w hF;have hpl:(Array.mapM (λf=>do pure (f.offset,<-sizeOf f.type)) fs:Sem (Array (Nat×Nat))).run P w= .ok places.toArray w:=(by have:(λf:Field=>(do pure (f.offset,<-sizeOf f.type):Sem (Nat×Nat)))=λf=>Prod.mk f.offset<$>sizeOf f.type:=(by funext f;rw[map_eq_pure_bind]);rw[this,Array.mapM_eq_mapM_toList];simp[hp1]);obtain⟨cells',h1,h2⟩:=Jrs hs (place:=λi=>places.toArray[i]?) (λi sp t h=>by
     simp only[stepOf]at h;cases hf:(Ty.fld a' r').field i with
     |none=>rw[hf]at h;cases h
     |some z=>obtain⟨z1,z2⟩:=z;rw[hf]at h;injection h with h;injection h with q1 q2;subst q1;subst q2;exact⟨0+z1,by simp only[List.getElem?_toArray];exact hp2 i z1 z2 hf,z1,z2,0,hf,⟨rfl,rfl⟩,by omega⟩) parts.toList (Jkf (.fld a' r')) s _ hstart hfill
    refine⟨_, ?_,fin _ h2⟩;have h1':Instr.fill (λi=>places.toArray[i]?) (pack (.fld a' r') (J9h (.fld a' r'))).cells ((parts.map λx=>(x.1,a.eval x.2)).toList)=some cells':=(by rw[Array.toList_map];exact h1);simp only[execOp,hop,Instr.build,Sem.run_bind,hz,hd,Result.andThen_ok,hpl,h1',Sem.run_pure]
   |unit=>
    obtain⟨fs,rfl,hF⟩:=hD;obtain⟨places,hp1,hp2⟩:=run_places hT w hF;have hpl:(Array.mapM (λf=>do pure (f.offset,<-sizeOf f.type)) fs:Sem (Array (Nat×Nat))).run P w= .ok places.toArray w:=(by have:(λf:Field=>(do pure (f.offset,<-sizeOf f.type):Sem (Nat×Nat)))=λf=>Prod.mk f.offset<$>sizeOf f.type:=(by funext f;rw[map_eq_pure_bind]);rw[this,Array.mapM_eq_mapM_toList];simp[hp1]);obtain⟨cells',h1,h2⟩:=Jrs hs (ty:=.unit) (place:=λi=>places.toArray[i]?) (λi sp t h=>by cases h) parts.toList (Jkf .unit) s _ hstart hfill
    refine⟨_, ?_,fin _ h2⟩;have h1':Instr.fill (λi=>places.toArray[i]?) (pack .unit (J9h .unit)).cells ((parts.map λx=>(x.1,a.eval x.2)).toList)=some cells':=(by rw[Array.toList_map];exact h1);simp only[execOp,hop,Instr.build,Sem.run_bind,hz,hd,Result.andThen_ok,hpl,h1',Sem.run_pure]
   |_=>cases hag
  cases he
 cases he
theorem Jpm(hT:J9a P T)(hop:o.op= .build t parts)(he:Jrc T st.slots st.heap t parts=some (s,h')):VOp P o st s h':=by
 have hr:=λs0=>Jn2 (st:=st) hT (s:=s0) hop;unfold Jm3 at hr;unfold Jrc at he;split at he
 ·rename_i ty hty;simp only[hty]at hr;split at he
  ·rename_i hag;split at he;·rename_i s0 hfill;injection he with he;have e1:s=(told st.heap ty s0).1:=(by rw[he]);have e2:h'=(told st.heap ty s0).2:=(by rw[he]);subst e1;subst e2;exact VOp.told ty (hr s0 (by rw[if_pos hag];exact hfill))
   cases he
  cases he
 cases he
def K94(h:List J8g)(ss:List (Nat×J8e))(e:Ty)(n:Nat):List (Nat×Operand)->List e.den->Option (List e.den)
 |[],xs=>some xs
 | (i,x)::r,xs=>if i<n then match Jad h e (J9d ss x)with
   |some y=>K94 h ss e n r (xs.set i y)
   |none=>none
  else none
def Jh8(ss:List (Nat×J8e)):List (Nat×Operand)->List Nat
 |[]=>[]
 |(_,x)::r=>(J9d ss x).ids++Jh8 ss r
theorem Jz9(hs:SRG c G st a w):
  ∀ (parts:List (Nat×Operand)) (xs ys:List e.den) (cells:Array Value),(∀l∈Jh8 st.slots parts,l∈ids)->
   J92 w (okB c G (freezeIds st.heap ids) w) (.arr n e) cells.toList xs->K94 st.heap st.slots e n parts xs=some ys->
   ∃cells',Instr.fill (λi=>some (i*e.size,e.size)) cells (parts.map λx=>(x.1,a.eval x.2))=some cells'/\
    J92 w (okB c G (freezeIds st.heap ids) w) (.arr n e) cells'.toList ys
 |[],xs,ys,cells,_,h,he=>by injection he with he;subst he;exact⟨cells,rfl,h⟩
 | (i,x)::r,xs,ys,cells,hi,h,he=>by
  unfold K94 at he;split at he
  ·rename_i hin;split at he
   ·rename_i y hy;obtain⟨cs,h3,h4⟩:=Jbw (ids:=ids) hs.toHRG (λl hl=>hi l (by simp[Jh8,hl])) hy (J8s hs x)
    have hl:=J92.len _ h3;have hcl:=J92.len _ h;rw[Array.length_toList]at hcl;simp only[Ty.size]at hcl;have hv:(a.eval x).cells.toList=cs:=(by rw[h4];exact pack_cells hl (J92.cells _ h3));have hle:(i+1)*e.size<=n*e.size:=Nat.mul_le_mul_right _ hin;rw[Nat.add_mul,Nat.one_mul]at hle;have hfo:=Jza (i*e.size) (a.eval x) cs hv cells (by rw[hl];omega);have hput:J92 w (okB c G (freezeIds st.heap ids) w) (.arr n e) (splice cells.toList (i*e.size) cs) (xs.set i y):=(by refine⟨by rw[List.length_set];exact h.1, ?_⟩;have:=Cat.put (R:=J92 w (okB c G (freezeIds st.heap ids) w) e) (λcs x=>J92.len e) h3 h.2 (by rw[h.1];exact hin);rw[splice,hl];exact this);obtain⟨cells',h6,h7⟩:=Jz9 hs r (xs.set i y) ys _ (λl hl=>hi l (by simp[Jh8,hl])) (by rw[hfo];exact hput) he
    simp only[List.map_cons,Instr.fill];grind
   cases he
  cases he
def Jgt(T:Tab)(ss:List (Nat×J8e))(h:List J8g)(t n:Nat)(parts:Array (Nat×Operand)):Option (J8e×List J8g):=
 match T.ty t with
 | some (.slice e)=>if e.pure=true/\n*e.size<=16777216 then match K94 h ss e n parts.toList (List.replicate n e.zero)with
   |some xs=>some (.own h.length [],freezeIds h (Jh8 ss parts.toList)++[.row e xs true])
   |none=>none
  else none
 |_=>none
theorem Jn3(hT:J9a P T)(hop:o.op= .buildSlice t n parts)(he:Jgt T st.slots st.heap t n parts=some (s,h')):VOp P o st s h':=by
 intro c G a w hs;have hh:=hs.toHRG;unfold Jgt at he;split at he
 ·rename_i e hty;split at he
  ·rename_i hc;obtain⟨hp,hlim⟩:=hc;split at he
   ·rename_i xs hfill;cases he;obtain⟨te,by_,hu,hg2,hI⟩:=Jdi hT hty w;have hne1:e≠.mp:=(by rintro rfl;cases hp);have hne2:e≠.fn:=(by rintro rfl;cases hp);have hz:=hI.run_zero hne1 hne2 w;have hzc:=pack_cells (Jae e) (Jb8 e);have hzs:(pack e (J9h e)).cells.size=e.size:=(by rw[<-Array.length_toList,hzc,Jae]);have hmade:(madeCells (pack e (J9h e)).cells (n*e.size)).toList=(List.replicate n (J9h e)).flatten:=(by have:=Jga (pack e (J9h e)).cells n;rw[hzs,hzc]at this;exact this);have hfr:=hh.freezeIds (Jh8 st.slots parts.toList);obtain⟨cells',h1,h2⟩:=Jz9 hs (ids:=Jh8 st.slots parts.toList) parts.toList (List.replicate n e.zero) xs (madeCells (pack e (J9h e)).cells (n*e.size)) (λl hl=>hl) ⟨by simp,by rw[hmade];exact Jb9 (Jea w _ e hp) n⟩ hfill
    have hxl:List.length xs=n:=h2.1;have hcl:=J92.len _ h2;rw[Array.length_toList]at hcl;simp only[Ty.size]at hcl;obtain⟨r1,r2,r3⟩:=Jxl hfr.1 rfl rfl rfl rfl (zs:=xs) (C:=cells') te (cap:=n) (by rw[hxl];exact Nat.le_refl _) (by rw[hcl];exact Nat.le_refl _) (by rw[hxl,List.take_of_length_le (by rw[Array.length_toList,hcl];exact Nat.le_refl _)];exact h2);have hsz:(freezeIds st.heap (Jh8 st.slots parts.toList)).length=st.heap.length:=Jjd _ _;rw[hsz,hxl]at r3;rw[hxl]at r1 r2;refine⟨_,_,_,.inl ?_,r1,Ext.snoc _ _,J9c.trans hfr.2 r2,r3 _⟩;have hnl:¬(16777216<n*e.size):=(by omega);by_cases h0:n*e.size=0;·have hm:madeCells (pack e (J9h e)).cells (n*e.size)= #[]:=(by apply Array.eq_empty_of_size_eq_zero;rw[size_madeCells,h0]);rw[hm]at h1;simp only[execOp,hop,Instr.buildSlice,Sem.run_bind,hu,hI.run_size,Result.andThen_ok,gt_iff_lt];simp only[h0];simp[h1,newRow,Array.range_zero']
    simp only[execOp,hop,Instr.buildSlice,Sem.run_bind,hu,hI.run_size,Result.andThen_ok,gt_iff_lt];simp only[madeCells]at h1;simp[hnl,h0,hz,newRow];simp[h1]
   cases he
  cases he
 cases he
end Go.Ax
