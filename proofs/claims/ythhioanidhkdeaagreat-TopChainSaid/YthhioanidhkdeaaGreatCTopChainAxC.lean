/-
  A semantics by value over the model: data, calls, code (part C).
-/
import Derived.Test.YthhioanidhkdeaaGreatCTopChainAxB
import Derived.Laws.IdiomRangeMap
import Derived.Maps.RangeRun
set_option autoImplicit true
set_option relaxedAutoImplicit true
set_option linter.unusedVariables false
set_option linter.unusedSimpArgs false
namespace Go.Ax
variable {P : Program} {T : Tab} {E : List Nat}
abbrev vi(x:Int):J8l:=.v (.int .i64) x
abbrev vb(x:Bool):J8l:=.v .bool x
abbrev vs(x:List UInt8):J8l:=.v .str x
abbrev vu(x:Unit):J8l:=.v .unit x
abbrev vl(t:Ty)(x:List t.den):J8l:=.v (.slice t) x
abbrev pr(n:Nat):J8l:=.ptr n []
abbrev ow(n:Nat):J8l:=.own n []
def nn:List J8l->J8l->J8l
 |[],s=>s
 |x::r,s=>.node x (nn r s)
def tp:List J8l->J8l
 |[]=>.tnil
 |x::r=>.tup x (tp r)
abbrev rr(t:Ty)(x:List t.den):J8j:=.row t x true
abbrev bx(t:Ty)(x:t.den):J8j:=.box t (.v t x) true
abbrev mm(k v:Ty)(x:List (k.den×v.den)):J8j:=.map k v x true
section
variable {α β γ δ ε : Type}
def ex2{α β:Type}(a b:Exit):α⊕β->Exit| .inl _=>a| .inr _=>b
def so2(a:α->St)(b:β->St):α⊕β->St| .inl x=>a x| .inr x=>b x
end
structure Wy where
 its:List It
 ps:List Prop
 ev:Jb8 ps
def rep{α:Type _}(x:α):Nat->List α->List α
 |0,l=>l
 |n+1,l=>x::rep x n l
theorem Jb8.rep(h:p)(hl:Jb8 l):∀n,Jb8 (rep p n l)
 |0=>hl
 |n+1=>⟨h,Jb8.rep h hl n⟩
theorem Jb8.back(h:Jb8 l):Jb8 l.reverse:=by
 induction l with
 |nil=>trivial
 |cons p l ih=>rw[List.reverse_cons];exact Jb8.app (ih h.2) ⟨h.1,trivial⟩
def w0:Wy:=⟨[],[],trivial⟩
def Wy.br(a:Wy)(n:Nat)(v:Bool)(h:b=v):Wy:=⟨rep (.br v) n a.its,rep (b=v) n a.ps,Jb8.rep h a.ev n⟩
def Wy.i(a:Wy)(l:List It):Wy:=⟨l.reverse++a.its,a.ps,a.ev⟩
def Wy.e(a:Wy)(h:p):Wy:=⟨a.its,p::a.ps,h,a.ev⟩
def Wy.ie(a:Wy)(i:It)(h:p):Wy:=⟨i::a.its,p::a.ps,h,a.ev⟩
def To{α:Type}(a:Wy)(x:Option α)(G:α->Prop):Prop:=∀u,x=some u->G u
section
variable {α β γ : Type} {a : Wy} {x y : Option α} {G : α → Prop} {b : Bool} {c : Prop} [Decidable c]
theorem no:To a none G:=λu h=>by cases h
theorem fk n m (h1:∀{h:b=true},To (a.br n true h) x G) (h2:∀{h:b=false},To (a.br m false h) y G):To a (J8g b x y) G:=λu h=>by
 rcases K41 h with⟨e,h⟩|⟨e,h⟩
 ·exact h1 (h:=e) u h
 ·exact h2 (h:=e) u h
theorem ff(h1:∀{h:b=true},To (a.br 1 true h) x G)(h2:∀{h:b=false},To (a.br 1 false h) y G):To a (J8g b x y) G:=fk 1 1 h1 h2
theorem us(n:Nat)(e:b=v)(h:To (a.br n v e) x G):To a x G:=h
theorem lt(n:Nat) v (h:To (a.br n v (rfl:v=v)) x G):To a x G:=h
theorem is l (h:To (a.i l) x G):To a x G:=h
theorem ev(e:p)(h:To (a.e e) x G):To a x G:=h
theorem ie i (e:p) (h:To (a.ie i e) x G):To a x G:=h
theorem ke l (z:List J8j) (h:To (a.ie (.kept l) (rfl:z=z)) x G):To a x G:=h
theorem ae(z:List J8j)(h:To (a.ie .asis (rfl:z=z)) x G):To a x G:=h
theorem dc p [Decidable p] (h:∀{e:p},To (a.e e) x G) (d:decide p=true:=by kernel_rfl):To a x G:=h (e:=of_decide_eq_true d)
theorem nd(h:∀{e:c},To (a.e e) x G):To a (need c x) G:=λu hu=>by
 obtain⟨e,hu⟩:=Jo8 hu
 exact h (e:=e) u hu
theorem bd(ok:To w0 F C)(h:∀{u} {e:C u},To a (K u) G):To a (J8e F K) G:=λu hu=>by
 obtain⟨v,e,hu⟩:=andThen_ok hu λ{u}=>ok u
 exact h (e:=e) u hu
theorem b2{K:β⊕γ->Option α}{C:β⊕γ->Prop}(ok:To w0 F C)(h1:∀{u} {e:C (.inl u)},To a (K (.inl u)) G)(h2:∀{u} {e:C (.inr u)},To a (K (.inr u)) G):To a (J8e F K) G:=
 bd ok λ{u e}=>match u,e with| .inl _,e=>h1 (e:=e)| .inr _,e=>h2 (e:=e)
theorem b3{K:β⊕γ⊕δ->Option α}{C:β⊕γ⊕δ->Prop}(ok:To w0 F C)(h1:∀{u} {e:C (.inl u)},To a (K (.inl u)) G)
  (h2:∀{u} {e:C (.inr (.inl u))},To a (K (.inr (.inl u))) G) (h3:∀{u} {e:C (.inr (.inr u))},To a (K (.inr (.inr u))) G):To a (J8e F K) G:=
 bd ok λ{u e}=>match u,e with| .inl _,e=>h1 (e:=e)| .inr (.inl _),e=>h2 (e:=e)| .inr (.inr _),e=>h3 (e:=e)
theorem b4{K:β⊕γ⊕δ⊕ε->Option α}{C:β⊕γ⊕δ⊕ε->Prop}(ok:To w0 F C)(h1:∀{u} {e:C (.inl u)},To a (K (.inl u)) G)
  (h2:∀{u} {e:C (.inr (.inl u))},To a (K (.inr (.inl u))) G) (h3:∀{u} {e:C (.inr (.inr (.inl u)))},To a (K (.inr (.inr (.inl u)))) G) (h4:∀{u} {e:C (.inr (.inr (.inr u)))},To a (K (.inr (.inr (.inr u)))) G):To a (J8e F K) G:=
 bd ok λ{u e}=>match u,e with| .inl _,e=>h1 (e:=e)| .inr (.inl _),e=>h2 (e:=e)| .inr (.inr (.inl _)),e=>h3 (e:=e)| .inr (.inr (.inr _)),e=>h4 (e:=e)
variable {f : FuncId} {A : List J8l} {objs : List J8j} {ret : β → J8l} {objs' : β → List J8j} {F : Option β} {K : β → Option α}
theorem ci{ret:J8l}{objs':List J8j}(e:CallC P f A objs ret objs')(ms:List (Option Ty))(bk sn:List Nat)(fl:Bool)(h:To (a.ie (.call ms bk sn fl ret objs') e) x G):To a x G:=h
theorem pi(e:J8h P z s o s')(h:To (a.ie (.part o s') e) x G):To a x G:=h
theorem ca(ok:To w0 F λu=>CallC P f A objs (ret u) (objs' u)) ms bk sn fl
  (h:∀{u} {e:CallC P f A objs (ret u) (objs' u)},To (a.ie (.call ms bk sn fl (ret u) (objs' u)) e) (K u) G):To a (J8e F K) G:=bd ok λ{u e}=>h (u:=u) (e:=e)
theorem c0(ok:To w0 F λu=>CallC P f A objs (ret u) (objs' u))(h:∀{u} {e:CallC P f A objs (ret u) (objs' u)},To (a.ie (.call [] [] [] true (ret u) (objs' u)) e) (K u) G):To a (J8e F K) G:=bd ok λ{u e}=>h (u:=u) (e:=e)
theorem cb(ok:To w0 F λu=>CallC P f A objs (ret u) (objs' u)) bk fl
  (h:∀{u} {e:CallC P f A objs (ret u) (objs' u)},To (a.ie (.call [] bk [] fl (ret u) (objs' u)) e) (K u) G):To a (J8e F K) G:=bd ok λ{u e}=>h (u:=u) (e:=e)
theorem cs(ok:To w0 F λu=>CallC P f A objs (ret u) (objs' u)) sn fl
  (h:∀{u} {e:CallC P f A objs (ret u) (objs' u)},To (a.ie (.call [] [] sn fl (ret u) (objs' u)) e) (K u) G):To a (J8e F K) G:=bd ok λ{u e}=>h (u:=u) (e:=e)
theorem cq(ok:To w0 F λu=>CallC P f A objs (ret u) (objs' u))(h:∀{u} {e:CallC P f A objs (ret u) (objs' u)},To ((a.ie .asis (rfl:([]:List J8j)=[])).ie (.call [] [] [] true (ret u) (objs' u)) e) (K u) G):To a (J8e F K) G:=bd ok λ{u e}=>h (u:=u) (e:=e)
theorem pt{o:β->Exit}{s':β->St}(ok:To w0 F λu=>J8h P z s (o u) (s' u))(h:∀{u} {e:J8h P z s (o u) (s' u)},To (a.ie (.part (o u) (s' u)) e) (K u) G):To a (J8e F K) G:=bd ok λ{u e}=>h (u:=u) (e:=e)
end
section
variable {α σ ρ : Type} {a : Wy}
theorem cn (h:P.funcs[f]? =some fn) (h1:(fn.name== "runtime.NumGoroutine")=false:=by kernel_rfl) (h2:fn.body.isNone=false:=by kernel_rfl):K7g P f fn:=⟨h,⟨fn,h,h1,h2⟩⟩
theorem Env.lf(v:Env P T E){fn:Func}(c:K7g P f fn) pos {z:α} {A:List J8l} {objs:List J8j} {ret:α->J8l} {objs':α->List J8j}
  (h:K0q P T E fn a.its.reverse pos A objs=some (a.ps.reverse,ret z,objs' z)):To a (some z) (λu=>CallC P f A objs (ret u) (objs' u)):=λu hu=>by
 cases hu
 exact v.fun c.1 c.2 a.ev.back h
theorem Env.cc(v:Env P T E){s:St}{ex:α->Exit}{s':α->St}(h:evF P T E x a.its.reverse s=some (a.ps.reverse,ex z,s' z)):To a (some z) (λu=>J8h P x s (ex u) (s' u)):=λu hu=>by
 cases hu
 exact v.code a.ev.back h
theorem Env.nx(v:Env P T E)(h:evF P T E x a.its.reverse (s1 s)=some (a.ps.reverse,.normal,s1 z)):To a (some (.inl z)) (λr=>Ji8 P x s r s1 ex s'):=λu hu=>by
 cases hu
 exact v.code a.ev.back h
theorem Env.clo(v:Env P T E){fn:Func}(e:Ty)(c:K7g P f fn){a0:List e.den}
  (hb:fn.body=some (.seq (J8n (J8p fn) [0]) (.seq (.seq (J8n (J8p fn) [1,0,0]) (.cond (.tmp 4) (J8n (J8p fn) [1,0,1,0]) .skip)) (J8n (J8p fn) [1,1]))):=by kernel_rfl)
  (hn:Nat.ble 1 fn.ntmps=true:=by kernel_rfl) (h0:evF P T E (J8n (J8p fn) [0]) [.sel [0] []] (entry fn [.v (.slice e) []] [])=some ([],.normal,⟨[(0,vl e [])],[],fn.ntmps,0⟩):=by kernel_rfl)
  (h1:evF P T E (J8n (J8p fn) [1,0,0]) [.sel [0,4] []] ⟨[(0,vl e [])],[],fn.ntmps,0⟩=some ([],.normal,⟨[(0,vl e []),(4,.anyb)],[],fn.ntmps,0⟩):=by kernel_rfl)
  (h2:evF P T E (J8n (J8p fn) [1,0,1,0]) [.promote 2 e,.sel [2] [0]] ⟨[(0,vl e []),(4,.anyb)],[],fn.ntmps,0⟩=some ([],.ret,⟨[(2,ow 0)],[rr e []],fn.ntmps,0⟩):=by kernel_rfl)
  (h3:evF P T E (J8n (J8p fn) [1,1]) [.sel [2] [1]] ⟨[(0,vl e []),(4,.anyb)],[],fn.ntmps,0⟩=some ([(List.length ([]:List e.den)+List.length ([]:List e.den)<=2147483648)],.ret,⟨[(2,ow 0)],[rr e []],fn.ntmps,0⟩):=by kernel_rfl)
  (hr:Jxo T ⟨[(2,ow 0)],[rr e []],fn.ntmps,0⟩ fn.results.toList=some (ow 0):=by kernel_rfl)
  (hx:∀x r,K0q P T E fn [.br false] [.sel [1]] [.v (.slice e) (x::r)] []=some ([(false:Bool)=false,List.length ([]:List e.den)+List.length (x::r)<=2147483648],ow 0,[rr e (x::r)]):=by intros;kernel_rfl):
  To w0 (need (List.length a0<=2147483648) (some a0)) λu=>CallC P f [.v (.slice e) a0] [] (ow 0) [rr e u]:=λu h=>by
 obtain⟨hl,h⟩:=Jo8 h
 cases h
 rcases a0 with _|⟨x,r⟩
 ·exact v.funAny c.1 c.2 (pos:=[.sel [0]]) hb hn h0 h1 rfl h2 (.c (by simp) .n) h3 hr rfl
 ·exact v.fun c.1 c.2 (.c rfl (.c (by simpa using hl) .n)) (hx x r)
def isOut:Exit->Bool
 | .normal=>false
 |_=>true
theorem Env.ot(v:Env P T E)(h1:isOut (ex z)=true)(h:evF P T E x a.its.reverse (s1 s)=some (a.ps.reverse,ex z,s' z)):To a (some (.inr z)) (λr=>Ji8 P x s r s1 ex s'):=λu hu=>by
 cases hu
 exact⟨λe=>(by rw[e]at h1;cases h1),v.code a.ev.back h⟩
theorem lp{step:σ->Option (σ⊕ρ)}{f:Func}{p:List Nat} s1 {ex:ρ->Exit} {s':ρ->St} {s:σ} {s0:St} (h:∀s,To w0 (step s) λr=>Ji8 P (J8n (J8p f) (p++[0])) s r s1 ex s')
  (e:J8n (J8p f) p= .loop (J8n (J8p f) (p++[0])):=by kernel_rfl) (e0:s0=s1 s:=by kernel_rfl):To w0 (loop step s) λr=>J8h P (J8n (J8p f) p) s0 (ex r) (s' r):=λr hl=>by
 rw[e,e0];exact Jdd.of_stepR (λs r hs=>h s r hs) s r hl
end
end Go.Ax

namespace Go.Ax
open Go Go.RowKit Go.Maps
variable {P : Program} {T : Tab} {E : List Nat}
def K08(P:Program)(f:FuncId)(args:List J8l)(objs:List J8j){α:Type}(S:α->Prop)(ret:α->J8l)(objs':α->List J8j):Prop:=
 Jdg P f/\∀(c:Ctx) (G:List GE) (vs:List Value),HRG c G objs c.w0->c.G0=G->ARel G c.w0 (okB c G objs c.w0) args vs->
  Calls P f vs.toArray c.w0 λe w'=>∃x,S x/\∃v G',e= .returned v/\HRG c G' (objs' x) w'/\J9k G' w' (okB c G' (objs' x) w') (ret x) v/\Ext G G'
def Kb2(P:Program)(ops:Array Oper)(l:List Oper)(st:St){α:Type}(S:α->Prop)(st':α->St):Prop:=
 ∀(c:Ctx) (a:Act) (w:World),SR c st a w->∀(Q:Exit->Act->World->Prop),(∀x,S x->∀a' w',SR c (st' x) a' w'->Q .normal a' w')->wpList P ops Q l a w
theorem Kb2.cons(hg:o.guard=none)(ho:Kcp P o st st1)(hl:Kb2 P ops l st1 S st'):Kb2 P ops (o::l) st S st':=by
 intro c a w hs Q hq
 refine wpList_step λK hK=> ?_
 rw[if_pos (by simp[Region.wanted,hg])]
 exact ho c a w hs _ _ λa' w' h=>hK _ _ (hl c a' w' h Q hq)
theorem Kb2.call
  (hg:o.guard=none) (hd:∀d,o.dst=some d->d<st.n) (hop:o.op= .call cl) (hcl:cl.callee= .value f0) (hf0:J9g st.slots f0= .fn f cap)
  (hp:Jtg st.heap back [] (cl.args.toList.map (J9g st.slots)++Jdc cap) as') (hb:Jbm st.heap back=true) (hcall:K08 P f as' (Jd2 st.heap back) S ret objs') (hle:∀x,back.length<=(objs' x).length)
  (hl:∀x,S x->Jen P ops l (Jdf o ((ret x).ren (unl st.heap.length back)) st (J9y st.heap back [] false (objs' x))) (st' x)):Kb2 P ops (o::l) st S st':=by
 intro c a w hs0 Q hq
 obtain⟨G,hs⟩:=hs0
 refine wpList_step λK hK=> ?_
 rw[if_pos (by simp[Region.wanted,hg])]
 have hfv:=J8z hs f0
 rw[hf0]at hfv
 obtain⟨t,cs,⟨_,caps,rfl,hcap⟩,hpk⟩:=hfv
 rename_i ht
 subst ht
 have hpk:a.eval f0= .func (.func f) #[] caps.toArray:=by rw[hpk];rfl
 have hcaps:=Jga _ hcap
 have hrel:ARel (back.map λl=>G.getD l default) w (okB (Jat c G st.heap w back []) (back.map λl=>G.getD l default) (Jd2 st.heap back) w) as'
   ((cl.args.toList.map a.eval)++caps):=by
  obtain⟨e,hget⟩:=hp.get
  refine⟨by rw[<-e];simp[hcaps.1],λi s' v hs' hv=> ?_⟩
  obtain⟨s,hs1,hs2⟩:=hget i s' hs'
  refine Jsa hs.toHRG hb (by simp) hs2 ?_
  rcases Nat.lt_or_ge i cl.args.toList.length with hi|hi
  ·rw[List.getElem?_append_left (by simpa using hi),List.getElem?_map]at hs1 hv
   cases hx:cl.args.toList[i]? with
   |none=>rw[hx]at hs1;cases hs1
   |some x=>
    rw[hx]at hs1 hv
    simp only[Option.map_some,Option.some.injEq]at hs1 hv
    subst hs1;subst hv
    exact J8z hs x
  ·rw[List.getElem?_append_right (by simpa using hi)]at hs1 hv
   simp only[List.length_map]at hs1 hv
   exact hcaps.2 _ s v hs1 hv
 have harr:(#[]++cl.args.map a.eval++caps.toArray)=((cl.args.toList.map a.eval)++caps).toArray:=by
  apply Array.toList_inj.1;simp
 obtain⟨⟨fn,hfn,hnm,hbody⟩,hcall⟩:=hcall
 have hrun:(execOp a.eval o).run P w= .ok (.enter f ((cl.args.toList.map a.eval)++caps).toArray) w:=by
  have:=harr
  have hnm':¬fn.name= "runtime.NumGoroutine" :=by simpa using hnm
  have hbody':¬fn.body=none:=by intro h;rw[h]at hbody;cases hbody
  simp[execOp,hop,resolve,hcl,hpk,Deferred.ofValue,invoke,callFunc,hfn,hnm',hbody',<-this]
 simp only[Oper.wp,hrun,Oper.upon]
 refine Calls.mono (hcall (Jat c G st.heap w back []) _ _ (Jjo hs.toHRG hb) rfl hrel) ?_
 rintro e w' ⟨x,hx,v,G2,rfl,h2,hv,hxt⟩
 obtain⟨r1,r2,r3,r4⟩:=Jgs (fl:=false) hs.toHRG hb (by simp) (hle x) (by simp) h2 hxt
 have hon:=hs.on r1 r2 r3
 have hvv:=r4 (ret x) v (by simp) hv
 refine hK _ _ (hl x hx c (a.put o.dst v) w' ?_ Q (hq x hx))
 unfold Jdf
 cases hdst:o.dst with
 |none=>exact⟨_,hon⟩
 |some d=>exact⟨_,hon.put (hd d hdst) hvv⟩
theorem J8h.seqN{st1:α->St}{id:Nat}{ops:Array Oper}{y:Code}{st st':St}{o:Exit}(h:Kb2 P ops ops.toList st S st1)(hy:∀x,S x->J8h P y (st1 x) o st'):
  J8h P (.seq (.region id ops false) y) st o st':=by
 intro c a w hs
 refine wp_seq (Code.wp_mono (P:=P) (Q:=λe a' w'=>e= .normal/\∃x,S x/\SR c (st1 x) a' w') ?_ ?_)
 ·rintro e a w ⟨rfl,x,hx,h1⟩
  exact hy x hx c a w h1
 ·exact wp_region_list (h c a w hs _ λx hx a' w' h'=>⟨rfl,x,hx,h'⟩)
theorem K08.collect(hc:Jdg P f)(h:∀(w:World) (Bm b q:Nat) (es:Array MapEntry),Bm<w.heap.size->b<w.heap.size->w.cell? ⟨Bm,0,none⟩=some (.map (some b))->w.heap[b]? =some (.map es q)->Jbi es q->
   (∀e∈es.toList,e.key=encZ (Jpi e))->es.size<=1000->Calls P f #[.func (.func kf) #[] #[.pointer (some ⟨Bm,0,none⟩)]] w λe w'=>∃(v:Value) (ss:List Int),e= .returned v/\ss.Perm (es.toList.map Jpi)/\
    w'.ownsRow w.heap.size it 1 v ss.length (ss.map encZ)/\(v= .slice none 0 0↔ss=[])/\Below w.heap.size w w') {es:List (Int×v.den)} {lb lm:Bool} (hl:List.length es<=1000):
  K08 P f [.fn kf (.tup (.ptr 0 []) .tnil)] [.box .mp (.mp 1) lb,.map (.int .i64) v es lm] (λss:List Int=>ss.Perm (es.map (·.1))) (λ_=>.own 2 []) (λss=>[.box .mp (.mp 1) lb,.map (.int .i64) v es lm,.row (.int .i64) ss true]):=by
 refine⟨hc,λc G vs hh hG hv=> ?_⟩
 have hlen:=hh.len
 match vs,hv with
 | [fv],hv=>
  obtain⟨t,cs,⟨rfl,us,rfl,hus⟩,rfl⟩:=hv.2 0 _ _ rfl rfl
  obtain⟨p,us',rfl,⟨t,cs,⟨rfl,g0,pv,hg0,rfl,hk0,Bm,o,t',hb0,⟨rfl,_⟩,rfl⟩,rfl⟩,hus'⟩:=hus
  have hus':us'=[]:=hus'
  subst hus'
  obtain⟨_,_,b1,cc,TT,hb1,hw1,hs1⟩:=hh.objs 0 _ g0 rfl hg0
  rw[hb0]at hb1;injection hb1 with hb1;subst hb1
  obtain⟨_,gm,b,hgm,hkm,hbm,hcc⟩:=hs1
  have hcell:c.w0.cell? ⟨Bm,0,none⟩=some (.map (some b)):=by
   have:cc= #[.map (some b)]:=by apply Array.toList_inj.1;rw[hcc]
   subst this
   simp[World.cell?,hw1]
  obtain⟨_,b2,es',q,hb2,hw2,hR,hB⟩:=hh.objs 1 _ gm rfl hgm
  rw[hbm]at hb2;injection hb2 with hb2;subst hb2
  have hsz:es'.size=List.length es:=by have:=Jjp hR;simpa using this
  have hkeys:es'.toList.map Jpi=es.map (·.1)/\∀e∈es'.toList,e.key=encZ (Jpi e):=by
   exact Jnz hR
  refine Calls.mono (h c.w0 Bm b q es' (Array.getElem?_eq_some_iff.1 hw1).1 (Array.getElem?_eq_some_iff.1 hw2).1 hcell hw2 hB hkeys.2 (by omega)) ?_
  rintro e w' ⟨v',ss,rfl,hp,hrow,hnil,hbel⟩
  rw[hkeys.1]at hp
  refine⟨ss,hp, ?_⟩
  match G,hlen with
  |[_,_],_=>
  rcases hrow.2 with⟨rfl,h0⟩|⟨gb,cap,cur,rfl,hbase,hgb,r1,r2,r3,r4⟩
  ·have he:ss=[]:=List.eq_nil_of_length_eq_zero h0
   subst he
   obtain⟨q1,q2,_⟩:=hh.junk hbel.block hbel.size hbel.os hbel.tape hbel.output
   obtain⟨q3,q4⟩:=q1.fresh (o:=.row (.int .i64) [] true) (g:=⟨.row,none,.int .i64,0,0⟩) rfl (λok'=>⟨rfl,rfl,rfl,Nat.le_refl _,.inl ⟨rfl,rfl⟩⟩)
   exact⟨_,_,rfl,q3,⟨.slice (.int .i64),_,⟨⟨.row,none,.int .i64,0,0⟩,_,rfl,rfl,.inl ⟨rfl,rfl,rfl,rfl⟩⟩,rfl⟩,Ext.snoc _ _⟩
  ·have hcat:∀(w:World) (ok:Nat->Prop) (xs:List Int),J95 w ok (.arr (List.length xs) (.int .i64)) (xs.map encZ) xs:=by
    intro w ok xs
    refine⟨rfl, ?_⟩
    induction xs with
    |nil=>rfl
    |cons x xs ih=>exact⟨[encZ x],xs.map encZ,rfl,rfl,ih⟩
   obtain⟨q3,q4⟩:=hh.grow0 hbel.block hbel.size hbel.os hbel.tape hbel.output hbase (Array.getElem?_eq_some_iff.1 hgb).1 (o:=.row (.int .i64) ss true) (g:=⟨.row,some gb,.int .i64,List.length ss,cap⟩) rfl
    (λok' k=>⟨rfl,rfl,rfl,r1,.inr ⟨gb,cur,it,rfl,hgb,by rw[r3];exact Nat.le_refl _,by
     show J95 w' ok' (.arr (List.length ss) (.int .i64)) (cur.toList.take (List.length ss*1)) _
     rw[r4];exact hcat _ _ _⟩⟩)
   exact⟨_,_,rfl,q3,⟨.slice (.int .i64),_,⟨⟨.row,some gb,.int .i64,List.length ss,cap⟩,_,rfl,rfl,.inl ⟨rfl,rfl,rfl,rfl⟩⟩,rfl⟩,Ext.snoc _ _⟩
 |[],hv=>exact absurd hv.1 (by simp)
 |_::_::_,hv=>exact absurd hv.1 (by simp)
def insI(x:Int):List Int->List Int
 |[]=>[x]
 |y::r=>if x<=y then x::y::r else y::insI x r
def Jlz:List Int->List Int
 |[]=>[]
 |x::r=>insI x (Jlz r)
open Classical in
noncomputable def K19{α:Type}(c:Prop)(k:Option α):Option α:=if c then k else none
theorem K1a(h:K19 c k=some r):c/\k=some r:=by
 unfold K19 at h
 grind
theorem K1b(h:c):K19 c k=k:=by unfold K19;rw[if_pos h]
end Go.Ax
namespace Go.Ax
open Go
variable {P : Program} {T : Tab} {E : List Nat}
theorem Env.sorted(v:Env P T E){f cf sf kf:FuncId}{fn:Func}{id:Nat}{o1 o2 o3:Oper}{r0 rest:Code}{cl:Call}{f0:Operand}{vt:Ty}{es:List (Int×vt.den)}{lb lm:Bool}{st0 st4:St}{st3:List Int->St}{s1 r:J8l}{h1:List J8j}{pos:List Po}
  (c:K7g P f fn) (hN:K08 P cf [.fn kf (.tup (.ptr 0 []) .tnil)] [.box .mp (.mp 1) lb,.map (.int .i64) vt es lm] (λss:List Int=>ss.Perm (es.map (·.1))) (λ_=>.own 2 []) (λss=>[.box .mp (.mp 1) lb,.map (.int .i64) vt es lm,.row (.int .i64) ss true]))
  (hs:∀ss:List Int,ss.Perm (es.map (·.1))->CallC P sf [.own 0 []] [.row (.int .i64) ss true] .tnil [.row (.int .i64) (Jlz (es.map (·.1))) true])
  (hb:fn.body=some (.seq r0 (.seq (.region id #[o1,o2,o3] false) rest))) (hn:Nat.ble 1 fn.ntmps=true)
  (h0:evF P T E r0 [] (entry fn [.fn kf (.tup (.ptr 0 []) .tnil)] [.box .mp (.mp 1) lb,.map (.int .i64) vt es lm])=some ([],.normal,st0))
  (g1:o1.guard=none) (e1:Jjf P T E st0.slots st0.heap [] o1.op=some ([],s1,h1,[])) (d1:Jyp o1 st0.n=true)
  (g2:o2.guard=none) (hop:o2.op= .call cl) (hcl:cl.callee= .value f0) (hf0:J9g (Jdf o1 s1 st0 h1).slots f0= .fn cf .tnil)
  (hp:Jdl (Jdf o1 s1 st0 h1).heap [0,1] [] [] (cl.args.toList.map (J9g (Jdf o1 s1 st0 h1).slots)++Jdc .tnil)=some [.fn kf (.tup (.ptr 0 []) .tnil)])
  (hl:Jbm (Jdf o1 s1 st0 h1).heap [0,1]=true) (hle:Jd2 (Jdf o1 s1 st0 h1).heap [0,1]=[.box .mp (.mp 1) lb,.map (.int .i64) vt es lm]) (d2:Jyp o2 (Jdf o1 s1 st0 h1).n=true)
  (e3:∀ss,Jn5 P T E #[o1,o2,o3] [o3] [] (Jdf o2 ((J8l.own 2 []).ren (unl (Jdf o1 s1 st0 h1).heap.length [0,1])) (Jdf o1 s1 st0 h1) (J9y (Jdf o1 s1 st0 h1).heap [0,1] [] false [.box .mp (.mp 1) lb,.map (.int .i64) vt es lm,.row (.int .i64) ss true]))=some ([],[],st3 ss))
  (e4:∀ss,evF P T E rest [.call [] [2] [] false .tnil [.row (.int .i64) (Jlz (es.map (·.1))) true]] (st3 ss)=some ([CallC P sf [.own 0 []] [.row (.int .i64) ss true] .tnil [.row (.int .i64) (Jlz (es.map (·.1))) true]],.ret,st4))
  (hr:Jxo T st4 fn.results.toList=some r) (hpo:Jdn 2 pos r st4.heap=some (.own 2 [],[.box .mp (.mp 1) lb,.map (.int .i64) vt es lm,.row (.int .i64) (Jlz (es.map (·.1))) true])):
  CallC P f [.fn kf (.tup (.ptr 0 []) .tnil)] [.box .mp (.mp 1) lb,.map (.int .i64) vt es lm] (.own 2 []) [.box .mp (.mp 1) lb,.map (.int .i64) vt es lm,.row (.int .i64) (Jlz (es.map (·.1))) true]:=by
 refine .mk c.2 (Jmq.body c.1 hb (Nat.le_of_ble_eq_true hn) ?_ (.inr rfl) (Jsm v.tab hr) (Jbv hpo))
 refine J8h.seq (v.code (ps:=[]) trivial h0) ?_
 refine J8h.seqN (S:=λss:List Int=>ss.Perm (es.map (·.1))) (st1:=st3) (Kb2.cons g1 ((Jf3 v.tab v.eq e1 trivial).ok (Jgv d1)) ?_) λss hss=>v.code (ps:=[_]) ⟨hs ss hss,trivial⟩ (e4 ss)
 refine Kb2.call (S:=λss:List Int=>ss.Perm (es.map (·.1))) (ret:=λ_=>.own 2 []) (objs':=λss=>[.box .mp (.mp 1) lb,.map (.int .i64) vt es lm,.row (.int .i64) ss true]) g2 (Jgv d2) hop hcl hf0 (Jg1 hp) hl (by rw[hle];exact hN) (λ_=>by simp) λss _=> ?_
 exact Jhn v.tab v.eq _ _ _ _ _ _ (e3 ss) trivial
def opAt:Code->Nat->Oper
 | .region _ ops _,i=>ops.getD i default
 |_,_=>default
def idAt:Code->Nat
 | .region id _ _=>id
 |_=>0
def Jtq(o:Oper):Call:=match o.op with| .call c=>c|_=>⟨.builtin .len,#[],#[]⟩
def valAt(c:Call):Operand:=match c.callee with| .value x=>x|_=>.tmp 0
def stF:Option (List Prop×Exit×St)->St
 |some (_,_,s)=>s
 |none=>⟨[],[],0,0⟩
def stO:Option (List Prop×List It×St)->St
 |some (_,_,s)=>s
 |none=>⟨[],[],0,0⟩
def slX:Option (List Prop×J8l×List J8j×List It)->J8l
 |some (_,s,_)=>s
 |none=>.undef
def hpX:Option (List Prop×J8l×List J8j×List It)->List J8j
 |some (_,_,h,_)=>h
 |none=>[]
section
variable (P : Program) (T : Tab) (E : List Nat) (fn : Func) (kf : FuncId) (vt : Ty) (es : List (Int × vt.den)) (lb lm : Bool)
def sS0:St:=stF (evF P T E (J8n (J8p fn) [0]) [] (entry fn [.fn kf (.tup (.ptr 0 []) .tnil)] [.box .mp (.mp 1) lb,.map (.int .i64) vt es lm]))
def sO(i:Nat):Oper:=opAt (J8n (J8p fn) [1,0]) i
def sX1:=Jjf P T E (sS0 P T E fn kf vt es lb lm).slots (sS0 P T E fn kf vt es lb lm).heap [] (sO fn 0).op
def sS1:St:=Jdf (sO fn 0) (slX (sX1 P T E fn kf vt es lb lm)) (sS0 P T E fn kf vt es lb lm) (hpX (sX1 P T E fn kf vt es lb lm))
def sS2(ss:List Int):St:=Jdf (sO fn 1) ((J8l.own 2 []).ren (unl (sS1 P T E fn kf vt es lb lm).heap.length [0,1])) (sS1 P T E fn kf vt es lb lm) (J9y (sS1 P T E fn kf vt es lb lm).heap [0,1] [] false [.box .mp (.mp 1) lb,.map (.int .i64) vt es lm,.row (.int .i64) ss true])
def sS3(ss:List Int):St:=stO (Jn5 P T E #[sO fn 0,sO fn 1,sO fn 2] [sO fn 2] [] (sS2 P T E fn kf vt es lb lm ss))
def sS4:St:=stF (evF P T E (J8n (J8p fn) [1,1]) [.call [] [2] [] false .tnil [.row (.int .i64) (Jlz (es.map (·.1))) true]] (sS3 P T E fn kf vt es lb lm []))
end
theorem Env.srt(v:Env P T E){f cf sf kf:FuncId}{fn:Func}{vt:Ty}{es:List (Int×vt.den)}{lb lm:Bool}(c:K7g P f fn)
  (hN:K08 P cf [.fn kf (.tup (.ptr 0 []) .tnil)] [.box .mp (.mp 1) lb,.map (.int .i64) vt es lm] (λss:List Int=>ss.Perm (es.map (·.1))) (λ_=>.own 2 []) (λss=>[.box .mp (.mp 1) lb,.map (.int .i64) vt es lm,.row (.int .i64) ss true]))
  (hs:∀ss:List Int,ss.Perm (es.map (·.1))->CallC P sf [.own 0 []] [.row (.int .i64) ss true] .tnil [.row (.int .i64) (Jlz (es.map (·.1))) true])
  (hb:fn.body=some (.seq (J8n (J8p fn) [0]) (.seq (.region (idAt (J8n (J8p fn) [1,0])) #[sO fn 0,sO fn 1,sO fn 2] false) (J8n (J8p fn) [1,1]))):=by kernel_rfl) (hn:Nat.ble 1 fn.ntmps=true:=by kernel_rfl)
  (h0:evF P T E (J8n (J8p fn) [0]) [] (entry fn [.fn kf (.tup (.ptr 0 []) .tnil)] [.box .mp (.mp 1) lb,.map (.int .i64) vt es lm])=some ([],.normal,sS0 P T E fn kf vt es lb lm):=by kernel_rfl)
  (g1:(sO fn 0).guard=none:=by kernel_rfl) (e1:sX1 P T E fn kf vt es lb lm=some ([],slX (sX1 P T E fn kf vt es lb lm),hpX (sX1 P T E fn kf vt es lb lm),[]):=by kernel_rfl) (d1:Jyp (sO fn 0) (sS0 P T E fn kf vt es lb lm).n=true:=by kernel_rfl)
  (g2:(sO fn 1).guard=none:=by kernel_rfl) (hop:(sO fn 1).op= .call (Jtq (sO fn 1)):=by kernel_rfl) (hcl:(Jtq (sO fn 1)).callee= .value (valAt (Jtq (sO fn 1))):=by kernel_rfl)
  (hf0:J9g (sS1 P T E fn kf vt es lb lm).slots (valAt (Jtq (sO fn 1)))= .fn cf .tnil:=by kernel_rfl)
  (hp:Jdl (sS1 P T E fn kf vt es lb lm).heap [0,1] [] [] ((Jtq (sO fn 1)).args.toList.map (J9g (sS1 P T E fn kf vt es lb lm).slots)++Jdc .tnil)=some [.fn kf (.tup (.ptr 0 []) .tnil)]:=by kernel_rfl)
  (hl:Jbm (sS1 P T E fn kf vt es lb lm).heap [0,1]=true:=by kernel_rfl) (hle:Jd2 (sS1 P T E fn kf vt es lb lm).heap [0,1]=[.box .mp (.mp 1) lb,.map (.int .i64) vt es lm]:=by kernel_rfl) (d2:Jyp (sO fn 1) (sS1 P T E fn kf vt es lb lm).n=true:=by kernel_rfl)
  (e3:∀ss,Jn5 P T E #[sO fn 0,sO fn 1,sO fn 2] [sO fn 2] [] (sS2 P T E fn kf vt es lb lm ss)=some ([],[],sS3 P T E fn kf vt es lb lm ss):=by intros;kernel_rfl)
  (e4:∀ss,evF P T E (J8n (J8p fn) [1,1]) [.call [] [2] [] false .tnil [.row (.int .i64) (Jlz (es.map (·.1))) true]] (sS3 P T E fn kf vt es lb lm ss)=some ([CallC P sf [.own 0 []] [.row (.int .i64) ss true] .tnil [.row (.int .i64) (Jlz (es.map (·.1))) true]],.ret,sS4 P T E fn kf vt es lb lm):=by intros;kernel_rfl)
  (hr:Jxo T (sS4 P T E fn kf vt es lb lm) fn.results.toList=some (.own 2 []):=by kernel_rfl) (hpo:Jdn 2 [.sel [0,1,2]] (.own 2 []) (sS4 P T E fn kf vt es lb lm).heap=some (.own 2 [],[.box .mp (.mp 1) lb,.map (.int .i64) vt es lm,.row (.int .i64) (Jlz (es.map (·.1))) true]):=by kernel_rfl):
  CallC P f [.fn kf (.tup (.ptr 0 []) .tnil)] [.box .mp (.mp 1) lb,.map (.int .i64) vt es lm] (.own 2 []) [.box .mp (.mp 1) lb,.map (.int .i64) vt es lm,.row (.int .i64) (Jlz (es.map (·.1))) true]:=
 v.sorted (o1:=sO fn 0) (o2:=sO fn 1) (o3:=sO fn 2) c hN hs hb hn h0 g1 e1 d1 g2 hop hcl hf0 hp hl hle d2 e3 e4 hr hpo
end Go.Ax

namespace Go.Ax
open Go
variable {P : Program} {T : Tab} {E : List Nat}
section
variable {o : Oper} (a : Act) (w : World)
end
def rMods:List Nat:=[119,120,121,122,123,124,125,18,19,126,127,128,129,130]
structure RInv(a0:Act)(wb:World)(a:Act)(w:World):Prop where
 size:a.tmps.size=a0.tmps.size
 df:a.defers=a0.defers
 keep:∀i,i∉rMods->a.tmps.getD i undef=a0.tmps.getD i undef
 it:a.tmps.getD 120 undef= .pointer (some ⟨wb.heap.size,0,none⟩)
 old:∀b,b<wb.heap.size->w.heap[b]? =wb.heap[b]?
 hs:w.heap.size=wb.heap.size+1
 os:w.os=wb.os
 tape:w.tape=wb.tape
 out:w.output=wb.output
theorem gP{a:Act}{d i:Nat}{v:Value}(hd:d<a.tmps.size):(a.put (some d) v).tmps.getD i undef=if d=i then v else a.tmps.getD i undef:=Jhr hd
theorem sP(a:Act)(d:Nat) v:(a.put (some d) v).tmps.size=a.tmps.size:=by show(a.tmps.setIfInBounds d v).size=_;rw[Array.size_setIfInBounds]
theorem RInv.put{a:Act}{w:World}(h:RInv a0 wb a w){d:Nat} v (hm:d∈rMods) (hd:d≠120) (hn:131<=a0.tmps.size) (hd2:d<131):RInv a0 wb (a.put (some d) v) w:=by
 have hsz:d<a.tmps.size:=by rw[h.size];omega
 exact {h with
  size:=(sP a d v).trans h.size
  df:=h.df
  keep:=λi hi=>by
   have hne:¬d=i:=λe=>hi (e▸hm)
   rw[gP hsz,if_neg hne];exact h.keep i hi
  it:=by rw[gP hsz,if_neg hd];exact h.it}
section
variable {i0 i1 i2 i3 b b2 mt kt et : Nat} {o0 o1 o2 o3 o4 o5 o6 o7 o8 o9 o10 o11 o12 o13 : Oper} {z : Code}
end
end Go.Ax
