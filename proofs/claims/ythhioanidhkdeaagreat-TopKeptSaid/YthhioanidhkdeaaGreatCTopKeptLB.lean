/-
  What the host keeps no more can't be answered; the last is always there.
-/
import Derived.Test.YthhioanidhkdeaaGreatCTopKeptLA
namespace Go.Ax.V
open Go.Ax
set_option linter.unusedVariables false
set_option linter.unusedSimpArgs false
section
variable {n : Nat} {p : Nat → Int} {f : Nat → Int}
theorem K1m (hp:PwOk p) (h1:1≤n) (hn:n≤4) (hf:0≤f 0∧f 0≤1000000000):Jq (f 0) () (J6i n) (J6n n) (J6g p n) ([],0,[],())=some (1,(),J6i n,J6n n,J6g p n,stR [] [[]],BL n p f [[]]):=by
 have hsm:=Jm4 p n hn
 have e0:J8a ((1:Int),f 0,J9i [],List.replicate 32 (0:UInt8),setH (J6g p n),List.replicate 32 (0:UInt8),())=true:=by
  rw [Jbx]; show ((1:Int)≤1∧(1:Int)≤16)∧0≤f 0∧f 0≤1073741824; omega
 have hh:J8n ((1:Int),f 0,J9i [],setH (J6g p n),setH (J6g p n),List.replicate 32 (0:UInt8),()):=⟨J7x _,J8j _,J8j _,by simp⟩
 unfold Jq
 rw [Jh6 _ (by simp),J6a,Jj3 [] ⟨by simp,by simp⟩,J6a,J9b _ hsm,J6a,Jcq,J6a,e0]
 rw [show (!true)=false from rfl,J6k,J6a,Jfi p hn,J6a,J6a,Ja9]
 show andThen (Jq_1 (n:Int) 0 () (J6i n) (J6n n) (J6g p n) ([],0,[],()) _ _ () [] (J6g p n) (J6g p n)) _=_
 rw [hcA n hn p _ hh (Int.le_refl 1) (show (1:Int)≤16 by omega),J6a,Juw [] (by simp),J6a,J6b (by simp),Jj2 _ Jxy,J6a]
 show some _=some (1,(),J6i n,J6n n,J6g p n,stR [] [[]],blG n (rR [[]]) (fun _=>J6g p n) f 1)
 rfl
theorem K1n (hp:PwOk p) (h1:1≤n) (hn:n≤4) {R:List (List Pr)} (hR:1≤R.length∧R.length < 16) (hrows:∀ l ∈ R,RowB l) {now:List Pr} (hnow:RowB now) (hf:∀ j,j≤R.length→0≤f j∧f j≤1000000000) (hlt:f (R.length - 1) < f R.length) :
  Jc (f R.length) () (J6i n) (J6n n) (J6g p n) (stR now R) (BL n p f R)=some ((R.length:Int)+1,(),J6i n,J6n n,J6g p n,stR now (R++[now]),BL n p f R,BL n p f (R++[now])):=by
 obtain ⟨k,hk⟩:∃ k,R.length=k+1:=⟨R.length - 1,by omega⟩
 have hsm:=Jm4 p n hn
 have hkv:=K31 hnow
 have hlen:=Ju4 n p f R
 have hs:=Jxx hnow hrows (by omega)
 have hfk:=hf (k+1) (by omega)
 have hlast:lastB (BL n p f R)=gL n p f R k:=by
  unfold BL gL; rw [hk]; exact Jzo _ _ _ _ _
 have e0:J8a (((k+2:Nat):Int),f (k+1),J9i now,List.replicate 32 (0:UInt8),setH (J6g p n),List.replicate 32 (0:UInt8),())=true:=by
  rw [Jbx]; show ((1:Int)≤((k+2:Nat):Int)∧((k+2:Nat):Int)≤16)∧0≤f (k+1)∧f (k+1)≤1073741824; omega
 have e1:w64 (((k+1:Nat):Int)+1)=((k+2:Nat):Int):=by rw [J6f (by omega) (by omega)]; omega
 have e2:w64 (((k+1:Nat):Int) - 1)=((k:Nat):Int):=by rw [J6f (by omega) (by omega)]; omega
 have e3:(BL n p f R).getD k zBlk=gL n p f R k:=BL_at n p f R (by omega)
 have hg:J8n (hL n p f R k):=Jnf n _ f (K0z R k)
 have hh:J8n (((k+2:Nat):Int),f (k+1),J9i now,setH (J6g p n),setH (J6g p n),sha (72::Jc3 (hL n p f R k)),()):=⟨J7x _,J8j _,J8j _,J7x _⟩
 have e5:Jc3 (hL n p f R k)=Jfg (hL n p f R k):=by
  unfold Jc3 hL
  rw [Jlh (by omega) (hf k (by omega)).1 (by have:=(hf k (by omega)).2; omega),if_pos rfl]
 have ht:(hL n p f R k).2.1=f k:=hG_t _ _ _ _ _
 rw [hk] at hlt ⊢
 unfold Jc
 rw [Jh6 _ (by show now.length≤_; have:=hkv.1; omega),J6a]
 show andThen (J0o now) _=_
 rw [Jj3 _ hkv,J6a,J9b _ hsm,J6a,Jcq,J6a,hlen,hk,e1,e0]
 rw [show (!true)=false from rfl,J6k,J6e (by omega),e2,J6b ⟨by omega,by omega⟩,show (Int.toNat ((k:Nat):Int))=k from rfl]
 rw [show ((((0:Int),(0:Int),(List.replicate 32 (0:UInt8)),(List.replicate 32 (0:UInt8)),(List.replicate 32 (0:UInt8)),(List.replicate 32 (0:UInt8)),()),([]:List J7b),([]:List Val),([]:List Val),()):Block)=zBlk from rfl,e3]
 rw [show (gL n p f R k).1=hL n p f R k from rfl,show (gL n p f R k).2.2.2.1=J6g p n from rfl,ht,J6c (by simp only [Nat.add_sub_cancel] at hlt; omega)]
 rw [Jhx _ hg,J6a,J9b _ hsm,J6a,Jfi p hn,J6a,J6a,Ja9]
 show andThen (Jc_1 (J6g p n) (n:Int) 0 () (J6i n) (J6n n) (J6g p n) (stR now R) (BL n p f R) _ _ () [] (J6g p n) (J6g p n)) _=_
 rw [hcB n hn p _ hh (show (1:Int)≤((k+2:Nat):Int) by omega) (show ((k+2:Nat):Int)≤16 by omega),J6a,Juw _ (by rw [hlen]; omega),J6a,J6b (by rw [hlen]; simp; omega),Jj2 _ hs,J6a,e5,Jtw (by omega),hk]
 rw [K18]
 unfold blkR hdR nowS
 rw [hlen,if_neg (by omega),if_neg (by omega),hlast,hk]
 rw [show (((k+1:Nat):Int)+1)=((k+2:Nat):Int) from by omega]
 rfl
theorem K0c (hn:n≤4) {R:List (List Pr)} (hR:R.length≤16) {j:Nat} (hj:j < R.length) (st:Stt):J13 ((j:Int)+1) () (J6i n) (J6n n) (J6g p n) st (BL n p f R)=some (gL n p f R j,true):=by
 have hlen:=Ju4 n p f R
 have e2:w64 ((j:Int)+1 - 1)=(j:Int):=by rw [J6f (by omega) (by omega)]; omega
 have hpre:preS (fun _=>J6g p n) j=J6g p n:=by unfold preS; split <;> rfl
 unfold J13
 rw [hlen,J6c (by omega),J6c (by omega),e2,J6b ⟨by omega,by omega⟩,show Int.toNat (j:Int)=j from rfl]
 rw [show ((((0:Int),(0:Int),(List.replicate 32 (0:UInt8)),(List.replicate 32 (0:UInt8)),(List.replicate 32 (0:UInt8)),(List.replicate 32 (0:UInt8)),()),([]:List J7b),([]:List Val),([]:List Val),()):Block)=zBlk from rfl,BL_at n p f R hj]
 rw [show (gL n p f R j).2.1=sgJ (hL n p f R j) (List.range n) from rfl,show (gL n p f R j).2.2.1=J6g p n from hpre,show (gL n p f R j).2.2.2.1=J6g p n from rfl]
 rw [show J2a (sgJ (hL n p f R j) (List.range n))=some (sgJ (hL n p f R j) (List.range n)) from by unfold J2a; rw [J6b (by rw [Jg2,List.length_range]; omega)],J6a,Jfi p hn,J6a,J6a]
 show some ((hL n p f R j,sgJ (hL n p f R j) (List.range n),J6g p n,J6g p n,()),true)=some ((hL n p f R j,sgJ (hL n p f R j) (List.range n),preS (fun _=>J6g p n) j,J6g p n,()),true)
 rw [hpre]
end
def Qm:Qry:=(2,[115,47],[115,48],1,3,())
theorem cmD (n:Nat) (hn:n≤4) (S:List Val) (h:Hdr) (nx:List Val) (hk:w64 ((0:Int)+1)=h.1) (h1:1≤h.1) (h2:h.1≤16) (N:List Pr) (W:List Val) (B:List Block) (R:Rows) :
  J5_2 0 (J6i n) (n:Int) 0 (J6i n,J6n n,J7o n,N,W,B,R,()) h () [] nx (Jj5 h)=some (0,(J6i n,J6n n,J7o n,N,W,B,R,()),h,(),sgJ h (List.range n),nx):=by
 have e1:(J6i n).length=n:=J90 _ _
 have e2:(J6n n).length=n:=J90 _ _
 have e3:(J7o n).length=n:=J90 _ _
 unfold J5_2
 have:=J6l (step:=fun (t:Int×List J7b)=>J5_2_step 0 (J6i n) (n:Int) t.1 (J6i n,J6n n,J7o n,N,W,B,R,()) h () t.2 nx (Jj5 h)) (fun i (_:Unit)=>((i:Int),sgJ h (List.range i))) (fun _ _=>()) (fun _=>(0,(J6i n,J6n n,J7o n,N,W,B,R,()),h,(),sgJ h (List.range n),nx)) n (fun _ _=>True) (fun i w hi _=>⟨?_,trivial⟩) (fun w _=>?_) n 0 () (by omega) trivial
 ·exact this
 ·show J5_2_step 0 (J6i n) (n:Int) (i:Int) (J6i n,J6n n,J7o n,N,W,B,R,()) h () (sgJ h (List.range i)) nx (Jj5 h)=_
  unfold J5_2_step
  have g1:(J6i n).getD i (List.replicate 32 (0:UInt8))=J9v i:=J7t _ _ hi
  have g2:(J6n n).getD i []=J8x (J9v i):=J7t _ _ hi
  have g3:(J7o n).getD i []=nm i:=J7t _ _ hi
  dsimp only
  rw [J6e (by omega),J6b (by omega),J6b (by omega),J6b (by omega),Int.toNat_natCast,g1,g2,g3,hk,rBy_eq _ (by rw [J8f]; omega) (Jdw _) _ _ (Jf5 i) _ h1 h2 (by rw [Jj6]; omega),J6a,J6b (by rw [Jg2,List.length_range]; simp only [List.length_cons,List.length_nil]; omega),J6f (n:=(i:Int)+1) (by omega) (by omega),Jmb]
  rfl
 ·show J5_2_step 0 (J6i n) (n:Int) (n:Int) (J6i n,J6n n,J7o n,N,W,B,R,()) h () (sgJ h (List.range n)) nx (Jj5 h)=_
  unfold J5_2_step
  rw [J6c (by omega)]
theorem K1o (n:Nat) (hn:n≤4) (S:List Val) (hS:Joy S):∃ b,J5 1 (J6i n,J6n n,J7o n,[],S,[],[],())=some (1,(J6i n,J6n n,J7o n,[],S,[b],[[]],())):=by
 have e1:(J6i n).length=n:=J90 _ _
 have hSl:=hS.1
 have hnil:([]:List Val)++S=S:=rfl
 have hr:=Jvz (S:=S) (B:=[]) (t:=1) (by simp) (by omega) (by omega)
 have hh:=Jt6 S [] 1
 have hd1:=hdS_1 S [] 1
 have w1:w64 ((([]:List Block).length:Int)+1)=1:=rfl
 have hh0:((1:Int),(1:Int),Jxc,setH S,setH S,List.replicate 32 (0:UInt8),())=hdS S [] 1:=by unfold hdS; rfl
 unfold J5
 dsimp only
 rw [J6c (by simp),J6c (by omega),J6c (by omega),J6c (by simp),J6b (by simp only [List.length_nil]; omega),Jme,J6a,hnil,Jq9 S hS,J6a,J6a,w1,hh0,Joc _ hh,J6a,← Jy2 hr,e1]
 rw [show (([]:List Block).length:Int)=0 from rfl,cmD n hn S _ S (by rw [hd1]; rfl) (by rw [hd1]; simp) (by rw [hd1]; simp),J6a]
 dsimp only
 rw [J6b (by simp),J6b (by simp),J6b (by simp),J6b (by simp)]
 exact ⟨_,rfl⟩
theorem Ke (n:Nat) (hn:n≤4) (S:List Val) (hS:Joy S) (T:Int):∃ u,J2f T 1 3 () (J6i n) (J6n n) (J7o n) S=some u:=by
 obtain ⟨b,hb⟩:=K1o n hn S hS
 unfold J2f
 rw [hb,J6a]
 dsimp only
 rw [J6b (by simp)]
 unfold J3h Ju Ju_1
 rw [show J3i ((2:Int),([115,47]:List UInt8),([115,48]:List UInt8),1,3,())=some true from rfl,J6a,show (!true)=false from rfl,J6k,J6z (r:=(0,(0,0,[],()),((2:Int),([115,47]:List UInt8),([115,48]:List UInt8),1,3,()))) rfl]
 exact ⟨_,rfl⟩
noncomputable def gM:Nat→Ent:=fun _=>(Qm,1,0,())
section
variable {n : Nat} {p : Nat → Int} {f : Nat → Int}
theorem Jow (hp:PwOk p) (h1:1≤n) (hn:n≤4) (hf:f 0=1) (T:Int) (hT:0≤T∧T≤1073741824):J5c (J6g p n) (J6i n) T 1 3 =
  some (0,1,1,(),(),J6i n,J6n n,J6g p n,stR [] [[]],BL n p f [[]],(),([hL n p f [[]] 0],J6g p n,T,false,()),(1,0,0,()),regF gM 0 1,(),[],([],()),(0,0,[],false,()),0,0,0,false,(),[]):=by
 have hr:Jh8 1 f:=by
  refine ⟨fun i hi=>?_,fun i hi=>by omega⟩
  obtain rfl:i=0:=by omega
  rw [hf]; omega
 have hl:J57 (hL n p f [[]] 0) (J6g p n) T=some (.inr (0,([hL n p f [[]] 0],J6g p n,T,false,()))):=K2b (r:=rR [[]]) (P:=fun _=>p) (m:=1) h1 hn (fun _=>hp) (by omega) hr hT (j:=0) (by omega)
 have e:J4y (hL n p f [[]] 0) (J6g p n) T 1 3=some (0,(),([hL n p f [[]] 0],J6g p n,T,false,()),(1,0,0,()),regF gM 0 1,(),[],([],()),(0,0,[],false,()),0,0,0,false,(),[]):=by
  unfold J4y
  rw [hl]
  rfl
 unfold J5c
 rw [Jzh p hp h1 hn,J6a]
 have hc:=K1m (f:=f) hp h1 hn (by rw [hf]; omega)
 rw [hf] at hc
 rw [hc,J6a]
 rw [show J13 1 () (J6i n) (J6n n) (J6g p n) (stR [] [[]]) (BL n p f [[]])=_ from K0c hn (by simp) (j:=0) (by simp) _,J6a]
 rw [show J4y (gL n p f [[]] 0).1 (gL n p f [[]] 0).2.2.2.1 T 1 3=_ from e]
 rfl
end
theorem begunG (ps:List Int) (hps:ps.length≤1000) (f:Nat→Int) (hf:f 0=1) (T:Int) (hT:0≤T∧T≤1073741824):∃ u,J3q ps T 1 3 =
  some (1,1,(),(),J6i (setN ps),J6n (setN ps),Jx9 ps,stR [] [[]],BL (setN ps) (pw ps) f [[]],(),([hL (setN ps) (pw ps) f [[]] 0],Jx9 ps,T,false,()),(1,0,0,()),regF gM 0 1,(),[],([],()),(0,0,[],false,()),0,0,0,false,(),[],u):=by
 obtain ⟨h1,hn⟩:=Js3 ps
 obtain ⟨u,hu⟩:=Ke (setN ps) hn (Jx9 ps) (Jm4 _ _ hn) T
 have hw:=Jow (f:=f) (K2k ps) h1 hn hf T hT
 unfold J3q
 rw [Jqr ps (by omega),J6a]
 dsimp only
 rw [show Jx9 ps=J6g (pw ps) (setN ps) from rfl] at hu ⊢
 rw [hw,J6a]
 dsimp only
 rw [J9k rfl,hu,J6a]
 exact ⟨u,rfl⟩
section
variable (n : Nat) (p : Nat → Int) (f : Nat → Int) (R : List (List Pr))
noncomputable def hdK (j:Nat):List Hdr:=Jdx ((List.range j).map (hL n p f R))
noncomputable def cliG (T:Int) (j:Nat):Cli:=(hdK n p f R j,J6g p n,T,false,())
theorem Jfm (j:Nat):(hdK n p f R j).length=min j 6:=by unfold hdK; rw [Jeq]; simp
theorem Jze (l:List Pr) {j:Nat} (h:j≤R.length):hdK n p f (R++[l]) j=hdK n p f R j:=by
 unfold hdK
 congr 1
 refine List.map_congr_left fun i hi=>K21 n p f R l ?_
 have:=List.mem_range.1 hi; omega
theorem Jmz (l:List Pr) (T:Int) {j:Nat} (h:j≤R.length):cliG n p f (R++[l]) T j=cliG n p f R T j:=by unfold cliG; rw [Jze n p f R l h]
theorem Jr4 (j:Nat):hdK n p f R (j+1)=cut6 (hdK n p f R j++[hL n p f R j]):=by
 unfold hdK
 rw [List.range_succ,List.map_append,List.map_singleton,Jk3]
 unfold cut6
 rw [List.length_append,List.length_singleton]
theorem Jli {j:Nat} (h:1≤j) (x:List Val×Int×Bool×Unit):lastH (hdK n p f R j,x)=hL n p f R (j - 1):=by
 obtain ⟨i,rfl⟩:∃ i,j=i+1:=⟨j - 1,by omega⟩
 rw [Jr4]
 by_cases c:1≤(hdK n p f R i).length
 ·rw [Jw9 _ _ _ c]; rfl
 ·have:hdK n p f R i=[]:=List.eq_nil_of_length_eq_zero (by omega)
  rw [this]; rfl
theorem K0r {j:Nat} (h:1≤j) (T:Int):Knows (J6g p n) T (hL n p f R (j - 1)) (cliG n p f R T j):=
 ⟨by show 1≤(hdK n p f R j).length; rw [Jfm]; omega,by show (hdK n p f R j).length≤1000; rw [Jfm]; omega,Jli n p f R h _,rfl,rfl,rfl⟩
end
section
variable {n : Nat} {p : Nat → Int} {f : Nat → Int} {R : List (List Pr)}
theorem K3n (hp:PwOk p) (h1:1≤n) (hn:n≤4) (hR:R.length≤16) (hf:Jh8 R.length f) {j:Nat} (hj:1≤j∧j < R.length) (T now:Int) (hnow:0≤now∧now≤1099511627776) (q1:¬ T < now - f (j - 1)) (q2:f j≤now) :
  J25 (gL n p f R j) now (cliG n p f R T j)=some (0,cliG n p f R T (j+1)):=by
 have hk:=K0r n p f R hj.1 T
 rw [show gL n p f R j=sgB n (rR R) (fun _=>p) f j (fun _=>true) from K1x _ _ _ _ _]
 rw [upd_eq _ _ _ (sgB_ok hn (fun _=>p) f (by omega) (K0z R j) _) (K0e (r:=rR R) (P:=fun _=>p) (m:=R.length) hn (fun _=>hp) hR hf (i:=j - 1) (by omega) hk) (by omega)]
 rw [K3o (P:=fun _=>p) (m:=R.length) h1 hn (fun _=>hp) hR hf (i:=j - 1) (by omega) hj.2 hk now (fun _=>true) q1 (by omega)]
 have hw:=K2j (p:=pB (fun _=>p) j) (pB_ok (fun _=>hp) _) _ (K6 h1)
 rw [Jle,if_neg (by omega),if_neg (by omega)]
 rw [show (cliG n p f R T j).1=hdK n p f R j from rfl]
 rw [show hG n (rR R) (fun k=>J6g p n) f j=hL n p f R j from rfl,← Jr4]
 rfl
theorem expG (hp:PwOk p) (hn:n≤4) (hR:R.length≤16) (hf:Jh8 R.length f) {j:Nat} (hj:1≤j∧j≤R.length) (T now:Int) (hnow:0≤now∧now≤1099511627776) :
  J0h now (cliG n p f R T j)=some (decide (T < now - f (j - 1))):=by
 rw [Jju _ _ (K0e (r:=rR R) (P:=fun _=>p) (m:=R.length) hn (fun _=>hp) hR hf (i:=j - 1) (by omega) (K0r n p f R hj.1 T)) (by omega)]
 rw [show lastH (cliG n p f R T j)=hL n p f R (j - 1) from Jli n p f R hj.1 _,show (hL n p f R (j - 1)).2.1=f (j - 1) from hG_t _ _ _ _ _]
 rfl
theorem latG {j:Nat} (hj:1≤j) (x:Int×Bool×Unit) (v:List Val):J1i x (hdK n p f R j) v=some (hL n p f R (j - 1)):=by
 have hl:=Jfm n p f R j
 have:=Jli n p f R hj (v,x)
 unfold J1i
 rw [J6f (by omega) (by omega),J6b (by omega),show (((hdK n p f R j).length:Int) - 1).toNat=(hdK n p f R j).length - 1 from by omega]
 exact congrArg some this
theorem Jm9 (x0:Int) (x1:List Hdr) (x2:Int) (x3:Int) (x4:(List Hdr)×(List Val)×Int×Bool×Unit) (x5:List UInt8):Jr_1_step x0 x1 x2 x3 x4 x5 =
  (fork (decide (x3 < x2)) (need (0≤x3∧x3 < (List.length x1:Int)) (fork (decide ((List.getD x1 (Int.toNat x3) zHdr).1=x0)) (some (.inr (.inl (true,x4,(List.getD x1 (Int.toNat x3) zHdr).2.2.1)))) (some (.inl (w64 (x3+(1:Int))))))) (some (.inr (.inr (x4,x5)))):Option ((Int)⊕((Bool×((List Hdr)×(List Val)×Int×Bool×Unit)×List UInt8)⊕(((List Hdr)×(List Val)×Int×Bool×Unit)×List UInt8)))):=rfl
theorem K2z (x:Int) (l:List Hdr) (y:List Val×Int×Bool×Unit) (hl:l.length≤1000) {k:Nat} (hk:k < l.length) (hx:(l.getD k zHdr).1=x) (hne:∀ i,i < k→(l.getD i zHdr).1≠x) :
  Jr x (l,y)=some ((l.getD k zHdr).2.2.1,true,(l,y)):=by
 have m:Jr_1 x l (l.length:Int) 0 (l,y) (List.replicate 32 0)=some (scan (fun i=>if (l.getD i zHdr).1=x then some (.inl (true,(l,y),(l.getD i zHdr).2.2.1)) else none) (.inr ((l,y),List.replicate 32 0)) 0 l.length):=by
  unfold Jr_1
  refine J8y (step:=fun (s:Int)=>Jr_1_step x l (l.length:Int) s (l,y) (List.replicate 32 0)) (fun i=>(i:Int)) _ _ l.length (fun i hi q=>?_) (fun i r hi q=>?_) ?_ l.length 0 (by omega)
  ·rw [Jm9,J6e (by omega),J6b (by omega),Int.toNat_natCast,J6f (by omega) (by omega)]
   by_cases e:(l.getD i zHdr).1=x
   ·rw [if_pos e] at q; cases q
   ·rw [J6c e]; rfl
  ·rw [Jm9,J6e (by omega),J6b (by omega),Int.toNat_natCast]
   by_cases e:(l.getD i zHdr).1=x
   ·rw [if_pos e] at q; injection q with q; subst q; rw [J6e e]
   ·rw [if_neg e] at q; cases q
  ·rw [Jm9,J6c (by omega)]
 unfold Jr
 dsimp only
 rw [m,J6a,Jaa (bad:=fun i=>if (l.getD i zHdr).1=x then some (Sum.inl (true,(l,y),(l.getD i zHdr).2.2.1)) else none) l.length 0 k (Nat.zero_le _) (by omega) (fun j _ hj=>if_neg (hne j hj)) (if_pos hx)]
theorem rootG {j:Nat} (T:Int) {h:Nat} (hh:j - 6≤h∧h < j):Jr ((h:Int)+1) (cliG n p f R T j)=some (rR R h,true,cliG n p f R T j):=by
 have hl:=Jfm n p f R j
 have hg:∀ i,i < min j 6→(hdK n p f R j).getD i zHdr=hL n p f R (j - min j 6+i):=fun i hi=>by
  unfold hdK Jdx
  rw [List.getD_eq_getElem?_getD,List.getElem?_drop,List.length_map,List.length_range,List.getElem?_map,List.getElem?_range (by omega)]
  show hL n p f R (j - 6+i)=_
  congr 1; omega
 have hone:∀ i,(hL n p f R i).1=(i:Int)+1:=fun i=>hG_1 _ _ _ _ _
 have:=K2z ((h:Int)+1) (hdK n p f R j) (J6g p n,T,false,()) (by omega) (k:=h - (j - min j 6)) (by omega) (by rw [hg _ (by omega),hone]; omega) (fun i hi=>by rw [hg _ (by omega),hone]; omega)
 rw [hg _ (by omega)] at this
 rw [show j - min j 6+(h - (j - min j 6))=h from by omega] at this
 unfold cliG
 rw [this]
 rw [show (hL n p f R h).2.2.1=rR R h from K20 _ _ _ _ _]
end
abbrev Ce:=CalT×Int×Unit
def zCe:Ce:=(zCal,0,())
def Jfp (e:List (Int×Ce)) (id:Int):Int:=((J6p ib id e).getD zCe).1.2.1
theorem clastG (id:Int) (e:List (Int×Ce)):J3u id () e=some (Jfp e id):=rfl
theorem putG (c:CalT) (b:Int) (e:List (Int×Ce)) (h1:1≤c.2.1) (hb:0≤b) (hl:Jfp e c.1 < c.2.1) (hc:Je8 c) (hf:(J6p ib c.1 e).isSome=true∨e.length < 6) :
  J3f c b () e=some (0,J6x ib c.1 (c,b,()) e):=by
 have hcc:J2g c=some c:=by
  unfold J2g Jj
  unfold Je8 at hc
  rw [J6b (by omega)]; rfl
 unfold Jfp at hl
 unfold J3f
 rw [hcc]
 rw [J6c (by omega),J6c (by omega)]
 cases hs:(J6p ib c.1 e).isSome with
 | true=>
  rw [J7l,J6c (by
   have:¬ c.2.1≤((J6p ib c.1 e).getD zCe).1.2.1:=by omega
   exact this)]
  rfl
 | false=>
  have hf:e.length < 6:=by rcases hf with h | h; (rw [hs] at h; cases h); exact h
  rw [J6k,show (!false)=true from rfl,J7l,J6c (by omega)]
  rfl
noncomputable def J97 (id:Int) (q:Qry) (h:Int) (l:List Pr):CalT:=(id,h,(ansS id q h l).2.2.1,())
theorem openG {g:Nat→Ent} {m j:Nat} (hj:j < m) (r:Int×Int×Int×Unit):J0w ((j:Int)+1) r (regF g 0 m)=some (decide (0 < (g j).2.2.1)):=by
 unfold J0w
 rw [show J6p (Ty.beq (.int .i64)) ((j:Int)+1) (regF g 0 m)=some (g j) from Jfu g j m 0 (Nat.zero_le _) (by omega)]
 rfl
theorem K2l {g:Nat→Ent} {m j:Nat} (hj:j < m) (r:Int×Int×Int×Unit):J10 ((j:Int)+1) r (regF g 0 m)=some ((g j).1,true):=by
 unfold J10
 rw [show J6p (Ty.beq (.int .i64)) ((j:Int)+1) (regF g 0 m)=some (g j) from Jfu g j m 0 (Nat.zero_le _) (by omega)]
 rfl
theorem shutG {g:Nat→Ent} {m j:Nat} (hj:j < m) (hu:0 < (g j).2.2.1) (r:Int×Int×Int×Unit):J2r ((j:Int)+1) r (regF g 0 m)=some (true,regF (updG g j ((g j).1,(g j).2.1,0,())) 0 m):=by
 unfold J2r
 rw [show J6p (Ty.beq (.int .i64)) ((j:Int)+1) (regF g 0 m)=some (g j) from Jfu g j m 0 (Nat.zero_le _) (by omega)]
 simp only [Option.isSome_some,Option.getD_some,Bool.not_true]
 rw [J6k,J6c (by omega)]
 rw [show ∀ y:Ent,J6x (Ty.beq (.int .i64)) ((j:Int)+1) y (regF g 0 m)=regF (updG g j y) 0 m from fun y=>Jit g j y m 0 (Nat.zero_le _) (by omega)]
theorem Kg {g:Nat→Ent} {m j:Nat} (hj:j < m) (hu:0 < (g j).2.2.1) (hq:(g j).1.1=1∨(g j).1.1=2) {l:List Pr} (hrow:RowG l) {h:Int} (hh:1≤h∧h≤16) {cli:Cli} (hfz:cli.2.2.2.1=false) {now:Int} (hexp:J0h now cli=some false) (hroot:Jr h cli=some (J9i l,true,cli))
  {e:List (Int×Ce)} (hlast:Jfp e ((j:Int)+1) < h) (hf:(J6p ib ((j:Int)+1) e).isSome=true∨e.length < 6) {cl:List CalT} (hcl:cl.length < 8) (hco:∀ c ∈ cl,Je8 c) {r:Int×Int×Int×Unit} (hb:0≤r.2.1) (mi:Int×Int×List Pr×Bool×Unit) (x10 x11 x12:Int) (x13:Bool) (x15:List (List UInt8×Int)) :
  J12 (ansS ((j:Int)+1) (g j).1 h l) now () cli r (regF g 0 m) () e (cl,()) mi x10 x11 x12 x13 () x15 =
   some (0,cli,regF (updG g j ((g j).1,(g j).2.1,0,())) 0 m,J6x ib ((j:Int)+1) (J97 ((j:Int)+1) (g j).1 h l,r.2.1,()) e,(),cl++[J97 ((j:Int)+1) (g j).1 h l]):=by
 obtain ⟨a1,a2⟩:=Jsm hrow hq ((j:Int)+1) h hh
 obtain ⟨o1,o2,o3,o4,o5⟩:=Jhc ((j:Int)+1) (g j).1 h l hrow
 have hC:Je8 (J97 ((j:Int)+1) (g j).1 h l):=by unfold Je8 J97; dsimp only; omega
 unfold J12
 rw [a1,J6a,show (!true)=false from rfl,J6k,o4,o5,openG hj,J6a,decide_eq_true hu,show (!true)=false from rfl,J6k]
 rw [show J2q cli=some false from by unfold J2q; rw [hfz],J6a,J6k,hexp,J6a,J6k,clastG,J6a,J6c (by omega),hroot,J6a]
 dsimp only
 rw [show (!true)=false from rfl,J6k,roomG cl (by omega),J6a,J6c (by omega),K2l hj,J6a]
 dsimp only
 rw [a2,J6a,show (!decide ((0:Int)=0))=false from rfl,J6k,show J1w r (regF g 0 m)=some r.2.1 from rfl,J6a]
 rw [show ((((j:Int)+1),h,(ansS ((j:Int)+1) (g j).1 h l).2.2.1,()):CalT)=J97 ((j:Int)+1) (g j).1 h l from rfl]
 rw [putG (J97 ((j:Int)+1) (g j).1 h l) r.2.1 e hh.1 hb hlast hC hf,J6a]
 dsimp only
 rw [show (!decide ((0:Int)=0))=false from rfl,J6k,pushG _ cl hcl hC hco,J6a,shutG hj hu,J6a]
 rfl
theorem Juc {R:List (List Pr)} {now0:List Pr} {B:List Block} (hn0:RowB now0) (hR:∀ l ∈ R,RowB l) (hlen:R.length≤16) {g:Nat→Ent} {m j:Nat} (hj:j < m) (hu:0 < (g j).2.2.1) (hq:(g j).1.1=1∨(g j).1.1=2) {i:Nat} (hi:R.length - 6≤i∧i < R.length) (hrow:RowG (R.getD i [])) {cli:Cli} (hfz:cli.2.2.2.1=false) {now:Int} (hexp:J0h now cli=some false) (hroot:Jr ((i:Int)+1) cli=some (J9i (R.getD i []),true,cli))
  {e:List (Int×Ce)} (hlast:Jfp e ((j:Int)+1) < (i:Int)+1) (hf:(J6p ib ((j:Int)+1) e).isSome=true∨e.length < 6) {cl:List CalT} (hcl:cl.length < 8) (hco:∀ c ∈ cl,Je8 c) {r:Int×Int×Int×Unit} (hb:0≤r.2.1) (q:Int) (D:List (List UInt8)) (K:List (List (List UInt8))) (V:List Val) (mi:Int×Int×List Pr×Bool×Unit) (x10 x11 x12:Int) (x13:Bool) (x15:List (List UInt8×Int)) (ac:List CalT) (hac:ac.length≤1000) :
  J0a ((j:Int)+1) ((i:Int)+1) now q () () D K V (stR now0 R) B () cli r (regF g 0 m) () e (cl,()) mi x10 x11 x12 x13 () x15 ac =
   some (0,cli,regF (updG g j ((g j).1,(g j).2.1,0,())) 0 m,J6x ib ((j:Int)+1) (J97 ((j:Int)+1) (g j).1 ((i:Int)+1) (R.getD i []),r.2.1,()) e,(cl++[J97 ((j:Int)+1) (g j).1 ((i:Int)+1) (R.getD i [])],()),ac++[J97 ((j:Int)+1) (g j).1 ((i:Int)+1) (R.getD i [])]):=by
 obtain ⟨o1,o2,o3,o4,o5⟩:=Jhc ((j:Int)+1) (g j).1 ((i:Int)+1) (R.getD i []) hrow
 have hAt:J1z ((i:Int)+1) () D K V (stR now0 R) B=some (R.getD i [],true):=by
  unfold J1z
  rw [Jxw _ (Jxx hn0 hR hlen),J6a,K14,if_pos (by omega),show ((i:Int)+1 - 1).toNat=i from by omega]
 unfold J0a
 rw [show J05 () cli r (regF g 0 m) () e (cl,()) mi x10 x11 x12 x13 () x15=some () from rfl,J6a,K2l hj,J6a,hAt,J6a]
 dsimp only
 rw [show (!true)=false from rfl,J6k,J6k,K1e hrow hq,J6a]
 unfold J3e
 rw [Kg hj hu hq hrow (by omega) hfz hexp hroot hlast hf hcl hco hb,J6a]
 dsimp only
 rw [J6e rfl]
 unfold Jj
 rw [J6b (by omega),J6a,J6b (by simp only [List.length_singleton]; omega),o4,o5]
 rfl
def recB (t r:Int):List UInt8:=putS [t,r]
def recP (n:List UInt8) (t r:Int):Pr:=([115,47]++n,recB t r,())
def Amt (n:Int):Prop:=0≤n∧n≤1073741824
theorem Jg4 {n:Int} (h:Amt n):J2d n=some true:=by
 unfold J2d
 rw [J6e h.1,decide_eq_true h.2]
theorem Jx6 {t r:Int} (ht:Amt t) (hr:Amt r):J3n t r=some (recB t r):=by
 unfold J3n
 rw [Jg4 ht,J6a,Bool.not_true,J6k,Jg4 hr,J6a,Bool.not_true,J6k,put_eq _ (by simp)]
 rfl
theorem Jqh (l:List UInt8) (h:l.length≤1000):J5k l=some (l,false,()):=by
 unfold J5k
 rw [J6b (by rw [List.length_nil]; omega)]; rfl
theorem Jru (t r:Int):(recB t r).length≤14:=by have:=Jm1 [t,r]; unfold recB; simp only [List.length_cons,List.length_nil] at this; omega
theorem Kc {t r:Int} (ht:Amt t) (hr:Amt r):J39 (recB t r)=some (t,r,true):=by
 have e:recB t r=oneS t++(oneS r++[]):=by unfold recB putS; simp
 have hl:=Jru t r
 unfold J39
 rw [Jqh _ (by omega),J6a,e,number_eq,Jwn t ht.1 (by have:=ht.2; omega),J6a]
 dsimp only
 rw [number_eq,Jwn r hr.1 (by have:=hr.2; omega),J6a,doneS,J6a]
 dsimp only
 rw [show (!(!false && decide (([]:List UInt8)=[])))=false from rfl,J6k,Jg4 ht,J6a,Bool.not_true,J6k,Jg4 hr,J6a,Bool.not_true,J6k]
theorem Kb:J39 []=some (0,0,false):=by
 unfold J39
 rw [show J5k []=some ([],false,()) from rfl,J6a,number_eq,J6a,number_eq,J6a,doneS,J6a]
 rfl
def RecS:List (List UInt8×Int×Int)→Int
 | []=>0
 | x::r=>x.2.1+x.2.2+RecS r
def rowR (l:List (List UInt8×Int×Int)):List Pr:=l.map fun x=>recP x.1 x.2.1 x.2.2
theorem is_key (n:List UInt8):J45 ([115,47]++n)=some true:=by
 unfold J45 J4i J3y
 have hl:(([115,47]++n).length:Int)=(n.length:Int)+2:=by simp; omega
 have h2:(([115,47]:List UInt8).length:Int)=2:=rfl
 rw [hl,h2,J6e (by omega),J6b (by omega),show cutL ([115,47]++n) 0 2=[115,47] from rfl]
 rfl
theorem K0n (n:List UInt8) (t r:Int):J45 (recP n t r).1=some true:=is_key n
theorem Jis (x:List UInt8×Int×Int) (r:List (List UInt8×Int×Int)):RecS (x::r)=x.2.1+x.2.2+RecS r:=rfl
theorem Jbw:∀ {l:List (List UInt8×Int×Int)},(∀ x ∈ l,Amt x.2.1∧Amt x.2.2)→0≤RecS l
 | [],_=>Int.le_refl _
 | x::r,h=>by
  have h1:=h x (List.mem_cons_self ..); have h2:=Jbw (l:=r) fun y hy=>h y (List.mem_cons_of_mem _ hy)
  have:=h1.1.1; have:=h1.2.1; rw [Jis]; omega
theorem Jms (l:List Pr) (n:Nat) (hn:l.length=n) (hn2:n≤1000):∀ (m:List (List UInt8×Int×Int)) (acc:Int) (i:Nat),i+m.length=n→l.drop i=rowR m→(∀ x ∈ m,Amt x.2.1∧Amt x.2.2)→0≤acc→acc+RecS m≤1073741824→
  J02_1 acc l (n:Int) (i:Int)=some (acc+RecS m)
 | [],acc,i,hi,hd,hm,h0,h1=>by
  unfold J02_1
  refine J6z ?_
  show J02_1_step acc l (n:Int) (i:Int)=_
  unfold J02_1_step
  rw [J6c (by simp at hi; omega)]
  rw [show RecS []=0 from rfl,Int.add_zero]
 | x::m,acc,i,hi,hd,hm,h0,h1=>by
  simp only [List.length_cons] at hi
  have hx:=hm x (List.mem_cons_self ..)
  have hs:=Jbw (l:=m) fun y hy=>hm y (List.mem_cons_of_mem _ hy)
  have a1:=hx.1.1; have a2:=hx.2.1; have a3:=hx.1.2; have a4:=hx.2.2
  rw [Jis] at h1
  have hg:l.getD i zPr=recP x.1 x.2.1 x.2.2:=by
   have:(l.drop i)[0]?=some (recP x.1 x.2.1 x.2.2):=by rw [hd]; rfl
   rw [List.getElem?_drop,Nat.add_zero] at this
   rw [List.getD_eq_getElem?_getD,this]; rfl
  have hd2:l.drop (i+1)=rowR m:=by
   have:(l.drop i).drop 1=rowR m:=by rw [hd]; rfl
   rw [List.drop_drop] at this; exact this
  have ih:=Jms l n hn hn2 m (acc+(x.2.1+x.2.2)) (i+1) (by omega) hd2 (fun y hy=>hm y (List.mem_cons_of_mem _ hy)) (by omega) (by omega)
  unfold J02_1 at ih ⊢
  rw [J77 (s':=(acc+(x.2.1+x.2.2),((i+1:Nat):Int))) (by
   show J02_1_step acc l (n:Int) (i:Int)=_
   unfold J02_1_step
   rw [J6e (by omega),J6b (by omega),Int.toNat_natCast,show (([]:List UInt8),([]:List UInt8),())=zPr from rfl,hg,K0n,J6a,Bool.not_true,J6k,show (recP x.1 x.2.1 x.2.2).2.1=recB x.2.1 x.2.2 from rfl,Kc hx.1 hx.2,J6a]
   dsimp only
   rw [Bool.not_true,J6k,J6f (n:=x.2.1+x.2.2) (by omega) (by omega),J6f (n:=acc+(x.2.1+x.2.2)) (by omega) (by omega),J6f (n:=(i:Int)+1) (by omega) (by omega)]
   rfl),ih,Jis]
  congr 1; omega
theorem Jg9 (m:List (List UInt8×Int×Int)) (hl:m.length≤1000) (hm:∀ x ∈ m,Amt x.2.1∧Amt x.2.2) (h1:RecS m≤1073741824):J02 (rowR m)=some (RecS m,true):=by
 have hlen:(rowR m).length=m.length:=List.length_map _
 have:=Jms (rowR m) m.length hlen hl m 0 0 (by omega) rfl hm (Int.le_refl _) (by omega)
 unfold J02
 rw [hlen,show (0:Int)=((0:Nat):Int) from rfl] at *
 rw [this,J6a,Int.natCast_zero,Int.zero_add,Jg4 ⟨Jbw hm,h1⟩,J6a,Bool.not_true,J6k]
theorem K25 (n:List UInt8) (h:n.length≤1000):J1c n=some ([115,47]++n):=by
 unfold J1c
 rw [J6b (by simp; omega)]
theorem K04 (l:List Pr) (hl:RowB l) (n:List UInt8) (hn:n≠[]∧n.length≤14) (hat:isAt l ([115,47]++n)=false) (hlen:l.length < 30) (x:Int) (hx:Amt x) (s:Int) (hb:J02 (putP l (recP n x 0))=some (s,true)) :
  J3w l n x=some (putP l (recP n x 0),0):=by
 have hr:=hl.1
 have z:Amt 0:=⟨by omega,by omega⟩
 have hx1:=hx.1; have hx2:=hx.2
 have hm:mayP (recP n x 0)=true:=by
  have:=Jru x 0
  unfold mayP recP
  simp only [Bool.and_eq_true,decide_eq_true_eq,Bool.not_eq_true',decide_eq_false_iff_not]
  refine ⟨by simp,by simp; omega,by omega⟩
 have hset:setP l (recP n x 0)=(putP l (recP n x 0),true):=by
  unfold setP; rw [hm,decide_eq_true hlen]; simp
 unfold J3w J1t
 rw [K25 n (by omega),J6a,J6c hn.1,J6c (by simp; omega),Jg4 hx,J6a,Bool.not_true,J6k,Jfo l hr (by have:=hl.2.1; omega),J6a,hat,if_neg (by simp),Kb,J6a]
 dsimp only
 unfold J1t_1
 rw [J6k,Bool.not_false,J7l,Bool.not_true,J6k,J6a]
 dsimp only
 unfold J3x
 rw [J6a,Int.zero_add,J6f (by omega) (by omega)]
 dsimp only
 rw [J9k rfl,Jx6 hx z,J6a,show (([115,47]++n,recB x 0,()):Pr)=recP n x 0 from rfl,Jw8 l hr (by have:=hl.2.1; omega),J6a,hset]
 dsimp only
 rw [Bool.not_true,J6k,hb,J6a]
 rfl
abbrev Um:=List (List UInt8×Int)
def sumM:Um→Int
 | []=>0
 | p::r=>p.2+sumM r
def NonM:Um→Prop
 | []=>True
 | p::r=>0≤p.2∧NonM r
structure Ju5 (s p a:Int) (m:Um):Prop where
 s0:0≤s
 p0:0≤p
 top:s+p≤1073741824
 a0:0≤a
 a1:a≤1073741824
 sum:sumM m=a
 non:NonM m
theorem Jzr {s p a:Int} {m:Um} (h:Ju5 s p a m) (t:Int) (h0:0≤t) (h1:t≤1073741824 - p) (b:Bool) (u:Unit) :
  J3b t s p a b u m=some (0,t,false)∧Ju5 t p a m:=by
 have s0:=h.s0; have p0:=h.p0; have tp:=h.top
 unfold J3b
 rw [J6c (by omega),J6f (by omega) (by omega),J6c (by omega)]
 exact ⟨rfl,h0,h.p0,by omega,h.a0,h.a1,h.sum,h.non⟩
abbrev SRec:=List UInt8×Int×Int
abbrev Mir:=Int×Int×List Pr×Bool×Unit
theorem Jm6 (m:List SRec):(rowR m).length=m.length:=List.length_map _
theorem K32 (m:List SRec) {i:Nat} (hi:i < m.length):∃ x ∈ m,(rowR m).getD i zPr=recP x.1 x.2.1 x.2.2:=by
 have hm:(rowR m).getD i zPr ∈ rowR m:=J7c (by rw [Jm6]; exact hi)
 obtain ⟨x,hx,e⟩:=List.mem_map.1 hm
 exact ⟨x,hx,e.symm⟩
theorem Jkw (m:List SRec) (hl:m.length≤1000):J14 (rowR m)=some false:=by
 have hlen:=Jm6 m
 have e:Jg_1 (rowR m) ((rowR m).length:Int) 0=some (.inr ()):=by
  unfold Jg_1
  refine J6l (step:=fun (s:Int)=>Jg_1_step (rowR m) ((rowR m).length:Int) s) (fun i (_:Unit)=>(i:Int)) (fun _ _=>()) (fun _=>.inr ()) m.length (fun _ _=>True) (fun i w hi _=>⟨?_,trivial⟩) (fun w _=>?_) m.length 0 () (by omega) trivial
  ·show Jg_1_step (rowR m) ((rowR m).length:Int) (i:Int)=_
   unfold Jg_1_step J41
   obtain ⟨x,hx,ex⟩:=K32 m hi
   rw [J6e (by omega),J6b (by omega),Int.toNat_natCast,show (([]:List UInt8),([]:List UInt8),())=zPr from rfl,ex,K0n,J6a]
   rw [show (!true)=false from rfl,J6a,J6k,J6f (by omega) (by omega)]
   rfl
  ·show Jg_1_step (rowR m) ((rowR m).length:Int) (m.length:Int)=_
   unfold Jg_1_step
   rw [J6c (by omega)]
 unfold J14 Jg
 rw [e]
 rfl
theorem takeG (m:List SRec) (hl:m.length≤1000) (hm:∀ x ∈ m,Amt x.2.1∧Amt x.2.2) (h1:RecS m≤1073741824) (hk:J18 (rowR m)=some true) (h:Int) (mi:Mir) (hh:1≤h∧mi.1≤h) :
  J2w (1,h,rowR m,()) mi=some (0,h,RecS m,(false,()),rowR m):=by
 have hlen:=Jm6 m
 unfold J2w
 dsimp only
 rw [hk,J6a,show (!true)=false from rfl,J6k,Jkw m hl,J6a,J6k,J6c (by omega),Jg9 m hl hm h1,J6a]
 dsimp only
 rw [show (!true)=false from rfl,J6k]
 unfold Jj
 rw [J6b (by omega),J6a]
abbrev Mst3:=Mir×Int×Bool
noncomputable def Jks (c:CalT) (s:Mst3) (y z:Int) (us:List (List UInt8×Int)):Option (Mir×Int×Bool):=
 J1h c () ([],[],0,false,()) (0,0,0,()) [] () [] ([],()) s.1 s.2.1 y z s.2.2 () us
theorem Jmx (c:CalT) (s:Mst3) (y z:Int) (us:List (List UInt8×Int)) (cli:Cli) (r:Int×Int×Int×Unit) (reg:List (Int×Ent)) (ca:List (Int×Ce)) (cq:List CalT×Unit):J1h c () cli r reg () ca cq s.1 s.2.1 y z s.2.2 () us=Jks c s y z us:=rfl
theorem Jst (m:List SRec) (hl:m.length≤1000) (hm:∀ x ∈ m,Amt x.2.1∧Amt x.2.2) (hk:J18 (rowR m)=some true) (h:Int) (s:Mst3) (hh:1≤h∧s.1.1≤h) {y z:Int} {us:List (List UInt8×Int)} (hL:Ju5 s.2.1 y z us) (hy:RecS m≤1073741824 - y) :
  Jks (1,h,rowR m,()) s y z us=some ((h,RecS m,rowR m,false,()),RecS m,false)∧Ju5 (RecS m) y z us:=by
 have hp:=hL.p0
 obtain ⟨e,o⟩:=Jzr hL (RecS m) (Jbw hm) hy s.2.2 ()
 refine ⟨?_,o⟩
 unfold Jks J1h
 rw [show (!decide (((1:Int),h,rowR m,()).1=1))=false from rfl,J6k,takeG m hl hm (by omega) hk h s.1 hh,J6a]
 dsimp only
 rw [J6e rfl,show J31 h (RecS m) (false,()) (rowR m)=some () from rfl,J6a,e,J6a]
 rfl
def Jkl (y z:Int) (us:List (List UInt8×Int)):List CalT→Mst3→Mst3→Prop
 | [],s,t=>s=t
 | c::l,s,t=>∃ u,Jks c s y z us=some u∧Jkl y z us l u t
theorem Jjk (cli:Cli) (r:Int×Int×Int×Unit) (reg:List (Int×Ent)) (ca:List (Int×Ce)) (y z:Int) (us:List (List UInt8×Int)) :
  ∀ (l:List CalT) (s t:Mst3) (c:CalT),l.length≤1000→Jkl y z us (c::l) s t→
   Jf_1 true () cli r reg () ca (l,()) s.1 s.2.1 y z s.2.2 () us c=some ((),cli,r,reg,(),ca,([],()),t.1,t.2.1,y,z,t.2.2,(),us)
 | [],s,t,c,hl,h=>by
  obtain ⟨u,h1,h2⟩:=h
  have h2:u=t:=h2
  subst h2
  unfold Jf_1
  rw [J77 (s':=(false,([],()),u.1,u.2.1,u.2.2,zCal)) (by
   show Jf_1_step true () cli r reg () ca ([],()) s.1 s.2.1 y z s.2.2 () us c=_
   unfold Jf_1_step
   rw [J7l,Jmx,h1,J6a,popG0]
   rfl)]
  exact J6z rfl
 | d::l,s,t,c,hl,h=>by
  obtain ⟨u,h1,h2⟩:=h
  have ih:=Jjk cli r reg ca y z us l u t d (by rw [List.length_cons] at hl; omega) h2
  unfold Jf_1 at ih ⊢
  rw [J77 (s':=(true,(l,()),u.1,u.2.1,u.2.2,d)) (by
   show Jf_1_step true () cli r reg () ca (d::l,()) s.1 s.2.1 y z s.2.2 () us c=_
   unfold Jf_1_step
   rw [J7l,Jmx,h1,J6a,popG d l (by rw [List.length_cons] at hl; omega)]
   rfl)]
  exact ih
theorem Jqs (cli:Cli) {g:Nat→Ent} {m:Nat} (hm:m≤12) (hg:∀ j,Jml (g j)) (a b l:Int) (hb:0≤b∧b < 100000) (hl:0≤l∧l≤100000) (ca:List (Int×Ce)) (cl:List CalT) (hcl:cl.length≤100) (y z:Int) (us:List (List UInt8×Int)) (s t:Mst3) (h:Jkl y z us cl s t) :
  Jf () cli (a,b,l,()) (regF g 0 m) () ca (cl,()) s.1 s.2.1 y z s.2.2 () us=some ((),cli,(a,b+1,l+(J84 (fun j=>J7g (b+1) (g j)) m).length,()),regF (fun j=>askG (b+1) (J9l (b+1) (g j))) 0 m,(),ca,([],()),t.1,t.2.1,y,z,t.2.2,(),us,J84 (fun j=>J7g (b+1) (g j)) m,J84 (fun j=>Jb2 (b+1) (J9l (b+1) (g j))) m):=by
 unfold Jf
 cases cl with
 | nil=>
  cases h
  rw [popG0,J6a]
  dsimp only
  have e:Jf_1 false () cli (a,b,l,()) (regF g 0 m) () ca ([],()) s.1 s.2.1 y z s.2.2 () us zCal=some ((),cli,(a,b,l,()),regF g 0 m,(),ca,([],()),s.1,s.2.1,y,z,s.2.2,(),us):=by
   unfold Jf_1
   exact J6z rfl
  rw [e,J6a]
  dsimp only
  rw [Jy4 m hm g hg a b l hb hl,J6a]
 | cons c cl=>
  rw [popG c cl (by rw [List.length_cons] at hcl; omega),J6a]
  dsimp only
  rw [Jjk cli _ _ ca y z us cl s t c (by rw [List.length_cons] at hcl; omega) h,J6a]
  dsimp only
  rw [Jy4 m hm g hg a b l hb hl,J6a]
abbrev TxT:=Int×List UInt8×List UInt8×Int×Int×Unit
abbrev zTx:TxT:=(0,[],[],0,0,())
abbrev zQy:Qry:=(0,[],[],0,0,())
abbrev WRes:=Int×Int×List Int×List Int×CalT×Unit
abbrev zR (a b:Int) (k l:List Int):WRes:=(a,b,k,l,(0,0,[],()),())
theorem do_tx0 (now q:Int) (D:List (List UInt8)) (K:List (List (List UInt8))) (V:List Val) (s:Stt) (B:List Block) (c:Cli) (r:Int×Int×Int×Unit) (e:List (Int×Ent)) (ca:List (Int×Ce)) (cq:List CalT×Unit) (mi:Mir) (x y z:Int) (hb:Bool) (us:List (List UInt8×Int)) (t:TxT) (er:Int) (s':Stt) (h:J20 t () D K V s B=some (er,s')) :
  J35 (1,0,0,[],t,zQy,[],()) now q () () D K V s B () c r e () ca cq mi x y z hb () us=some (zR er 0 [] [],now,q,(),(),D,K,V,s',(),c,r,e,(),ca,cq,mi,x,y,z,hb,(),us,B,[]):=by
 unfold J35
 rw [J6e (show (1:Int)=1 from rfl)]
 show andThen (J20 t () D K V s B) _=_
 rw [h]
 rfl
theorem Jn1 (now q:Int) (D:List (List UInt8)) (K:List (List (List UInt8))) (V:List Val) (s:Stt) (B:List Block) (c:Cli) (r:Int×Int×Int×Unit) (e:List (Int×Ent)) (ca:List (Int×Ce)) (cq:List CalT×Unit) (mi:Mir) (x y z:Int) (hb:Bool) (us:List (List UInt8×Int)) (ac:List CalT) (t k:Int) (hk:k≠0) (s':Stt) (B' X:List Block) (h:Jc t () D K V s B=some (k,(),D,K,V,s',X,B')) :
  Jd (2,t,0,[],zTx,zQy,[],()) now q () () D K V s B () c r e () ca cq mi x y z hb () us ac=some (zR 0 k [] [],now,q,(),(),D,K,V,s',(),c,r,e,(),ca,cq,mi,x,y,z,hb,(),us,B',ac):=by
 unfold Jd
 rw [J6c (show ¬ (2:Int)=1 by decide),J6e (show (2:Int)=2 from rfl)]
 show andThen (Jc t () D K V s B) _=_
 rw [h,J6a,J6c hk]
 try rfl
theorem Jqw (now q:Int) (D:List (List UInt8)) (K:List (List (List UInt8))) (V:List Val) (s:Stt) (B:List Block) (c:Cli) (r:Int×Int×Int×Unit) (e:List (Int×Ent)) (ca:List (Int×Ce)) (cq:List CalT×Unit) (mi:Mir) (x y z:Int) (hb:Bool) (us:List (List UInt8×Int)) (ac:List CalT) (t:Int) (h1:now≤t) (h2:t≤1073741824) :
  Jd (3,t,0,[],zTx,zQy,[],()) now q () () D K V s B () c r e () ca cq mi x y z hb () us ac=some (zR 0 0 [] [],t,q,(),(),D,K,V,s,(),c,r,e,(),ca,cq,mi,x,y,z,hb,(),us,B,ac):=by
 unfold Jd
 rw [J6c (show ¬ (3:Int)=1 by decide),J6c (show ¬ (3:Int)=2 by decide),J6e (show (3:Int)=3 from rfl)]
 rw [show J33 (3,t,0,([]:List UInt8),zTx,zQy,([]:List UInt8),()).2.1 now q () () D K V s B () c r e () ca cq mi x y z hb () us ac=some 0 from by unfold J33; rw [J6c (show ¬ t < now by omega),J6c (show ¬ 1073741824 < t by omega)]]
 try rfl
theorem Jyw (now q:Int) (D:List (List UInt8)) (K:List (List (List UInt8))) (V:List Val) (s:Stt) (B:List Block) (c:Cli) (r:Int×Int×Int×Unit) (e:List (Int×Ent)) (ca:List (Int×Ce)) (cq:List CalT×Unit) (mi:Mir) (x y z:Int) (hb:Bool) (us:List (List UInt8×Int)) (ac:List CalT) (t er:Int) (c':Cli) (h:J17 t now q () () D K V s B () c r e () ca cq mi x y z hb () us ac=some (er,c')) :
  Jd (4,t,0,[],zTx,zQy,[],()) now q () () D K V s B () c r e () ca cq mi x y z hb () us ac=some (zR er 0 [] [],now,q,(),(),D,K,V,s,(),c',r,e,(),ca,cq,mi,x,y,z,hb,(),us,B,ac):=by
 unfold Jd
 rw [J6c (show ¬ (4:Int)=1 by decide),J6c (show ¬ (4:Int)=2 by decide),J6c (show ¬ (4:Int)=3 by decide),J6e (show (4:Int)=4 from rfl)]
 show andThen (J17 t now q () () D K V s B () c r e () ca cq mi x y z hb () us ac) _=_
 rw [h]
 try rfl
theorem Jqv (now q:Int) (D:List (List UInt8)) (K:List (List (List UInt8))) (V:List Val) (s:Stt) (B:List Block) (c:Cli) (r:Int×Int×Int×Unit) (e:List (Int×Ent)) (ca:List (Int×Ce)) (cq:List CalT×Unit) (mi:Mir) (x y z:Int) (hb:Bool) (us:List (List UInt8×Int)) (ac:List CalT) (r':Int×Int×Int×Unit) (e':List (Int×Ent)) (t:Mst3) (k l:List Int) (h:Jf () c r e () ca cq mi x y z hb () us=some ((),c,r',e',(),ca,([],()),t.1,t.2.1,y,z,t.2.2,(),us,k,l)) :
  Jd (5,0,0,[],zTx,zQy,[],()) now q () () D K V s B () c r e () ca cq mi x y z hb () us ac=some (zR 0 0 k l,now,q,(),(),D,K,V,s,(),c,r',e',(),ca,([],()),t.1,t.2.1,y,z,t.2.2,(),us,B,ac):=by
 unfold Jd
 rw [J6c (show ¬ (5:Int)=1 by decide),J6c (show ¬ (5:Int)=2 by decide),J6c (show ¬ (5:Int)=3 by decide),J6c (show ¬ (5:Int)=4 by decide),J6e (show (5:Int)=5 from rfl)]
 show andThen (Jf () c r e () ca cq mi x y z hb () us) _=_
 rw [h]
 try rfl
theorem Jv9 (now q:Int) (D:List (List UInt8)) (K:List (List (List UInt8))) (V:List Val) (s:Stt) (B:List Block) (c:Cli) (r:Int×Int×Int×Unit) (e:List (Int×Ent)) (ca:List (Int×Ce)) (cq:List CalT×Unit) (mi:Mir) (x y z:Int) (hb:Bool) (us:List (List UInt8×Int)) (ac:List CalT) (t u er:Int) (c':Cli) (e':List (Int×Ent)) (ca':List (Int×Ce)) (cq':List CalT×Unit) (ac':List CalT) (h:J0a t u now q () () D K V s B () c r e () ca cq mi x y z hb () us ac=some (er,c',e',ca',cq',ac')) :
  Jd (8,t,u,[],zTx,zQy,[],()) now q () () D K V s B () c r e () ca cq mi x y z hb () us ac=some (zR er 0 [] [],now,q,(),(),D,K,V,s,(),c',r,e',(),ca',cq',mi,x,y,z,hb,(),us,B,ac'):=by
 unfold Jd
 rw [J6c (show ¬ (8:Int)=1 by decide),J6c (show ¬ (8:Int)=2 by decide),J6c (show ¬ (8:Int)=3 by decide),J6c (show ¬ (8:Int)=4 by decide),J6c (show ¬ (8:Int)=5 by decide),J6c (show ¬ (8:Int)=6 by decide),J6c (show ¬ (8:Int)=7 by decide),J6e (show (8:Int)=8 from rfl)]
 show andThen (J0a t u now q () () D K V s B () c r e () ca cq mi x y z hb () us ac) _=_
 rw [h]
 try rfl
theorem Jyx (now q:Int) (D:List (List UInt8)) (K:List (List (List UInt8))) (V:List Val) (s:Stt) (B:List Block) (c:Cli) (r:Int×Int×Int×Unit) (e:List (Int×Ent)) (ca:List (Int×Ce)) (cq:List CalT×Unit) (mi:Mir) (x y z:Int) (hb:Bool) (us:List (List UInt8×Int)) (ac:List CalT) (er n a b:Int) (c':Cli) (e':List (Int×Ent)) (ca':List (Int×Ce)) (cq':List CalT×Unit) (ac':List CalT) (h:Jt now q () () D K V s B () c r e () ca cq mi x y z hb () us ac=some (zR er n [] [],now,q,(),(),D,K,V,s,B,(),c',r,e',(),ca',cq',mi,x,y,z,hb,(),us,ac')) :
  Jd (13,0,0,[],zTx,zQy,[],()) now q () () D K V s B () c r e () ca cq mi x y z hb () us ac=some (zR er n [] [],now,q,(),(),D,K,V,s,(),c',r,e',(),ca',cq',mi,x,y,z,hb,(),us,B,ac'):=by
 unfold Jd
 rw [J6c (show ¬ (13:Int)=1 by decide),J6c (show ¬ (13:Int)=2 by decide),J6c (show ¬ (13:Int)=3 by decide),J6c (show ¬ (13:Int)=4 by decide),J6c (show ¬ (13:Int)=5 by decide),J6c (show ¬ (13:Int)=6 by decide),J6c (show ¬ (13:Int)=7 by decide),J6c (show ¬ (13:Int)=8 by decide),J6c (show ¬ (13:Int)=9 by decide),J6c (show ¬ (13:Int)=10 by decide),J6c (show ¬ (13:Int)=11 by decide),J6c (show ¬ (13:Int)=12 by decide),J6e (show (13:Int)=13 from rfl)]
 show andThen (Jt now q () () D K V s B () c r e () ca cq mi x y z hb () us ac) _=_
 rw [h]
 try rfl
theorem getP (k k2:Int) (v:Ce):∀ e:List (Int×Ce),J6p ib k2 (J6x ib k v e)=if k2=k then some v else J6p ib k2 e
 | []=>by
  unfold J6x J6p
  rw [Jhy]
  by_cases c:k2=k
  ·rw [decide_eq_true c,cond_true,if_pos c]
  ·rw [decide_eq_false c,cond_false,if_neg c]; rfl
 | p::e=>by
  unfold J6x
  rw [Jhy]
  by_cases c:k=p.1
  ·rw [decide_eq_true c,cond_true]
   unfold J6p
   rw [Jhy]
   by_cases c2:k2=k
   ·rw [decide_eq_true (show k2=(p.1,v).1 from c2.trans c),cond_true,if_pos c2]
   ·have c3:¬ k2=p.1:=fun h=>c2 (h.trans c.symm)
    rw [decide_eq_false (show ¬ k2=(p.1,v).1 from c3),cond_false,cond_false,if_neg c2]
  ·rw [decide_eq_false c,cond_false]
   unfold J6p
   rw [Jhy]
   by_cases c2:k2=p.1
   ·rw [decide_eq_true c2,cond_true,cond_true,if_neg (fun h=>c (by rw [← h,c2]))]
   ·rw [decide_eq_false c2,cond_false,cond_false]; exact getP k k2 v e
theorem lenP (k:Int) (v:Ce):∀ e:List (Int×Ce),(J6x ib k v e).length=if (J6p ib k e).isSome=true then e.length else e.length+1
 | []=>rfl
 | p::e=>by
  unfold J6x J6p
  rw [Jhy]
  by_cases c:k=p.1
  ·rw [decide_eq_true c,cond_true,cond_true]; rfl
  ·rw [decide_eq_false c,cond_false,cond_false,List.length_cons,lenP k v e]
   split <;> simp
def cntC (e:List (Int×Ce)):Nat→Nat
 | 0=>0
 | i+1=>cntC e i+if (J6p ib ((i:Int)+1) e).isSome=true then 1 else 0
theorem K0f (e:List (Int×Ce)):∀ i,cntC e i≤i
 | 0=>Nat.le_refl _
 | i+1=>by unfold cntC; have:=K0f e i; split <;> omega
theorem cnt_lt {e:List (Int×Ce)} {j:Nat} (h:(J6p ib ((j:Int)+1) e).isSome=false):∀ i,j < i→cntC e i+1≤i
 | 0,hj=>by omega
 | i+1,hj=>by
  unfold cntC
  by_cases c:j=i
  ·subst c; rw [h]; have:=K0f e j; simp; omega
  ·have:=cnt_lt h i (by omega); split <;> omega
theorem Jux {e:List (Int×Ce)} {j:Nat} (v:Ce):∀ i,cntC (J6x ib ((j:Int)+1) v e) i=cntC e i+if j < i∧(J6p ib ((j:Int)+1) e).isSome=false then 1 else 0
 | 0=>by simp [cntC]
 | i+1=>by
  unfold cntC
  rw [Jux v i,getP]
  by_cases c:i=j
  ·subst c
   rw [if_pos (show ((i:Int)+1)=(i:Int)+1 from rfl)]
   cases (J6p ib ((i:Int)+1) e).isSome <;> simp
  ·rw [if_neg (show ¬ ((i:Int)+1=(j:Int)+1) by omega)]
   have:(j < i+1∧(J6p ib ((j:Int)+1) e).isSome=false)↔(j < i∧(J6p ib ((j:Int)+1) e).isSome=false):=by constructor <;> (rintro ⟨a,b⟩; exact ⟨by omega,b⟩)
   simp only [this]
   split <;> split <;> omega
def CaOk (m:Nat) (e:List (Int×Ce)):Prop:=e.length=cntC e m
theorem K1j {m:Nat} (hm:m≤6) {e:List (Int×Ce)} (h:CaOk m e) {j:Nat} (hj:j < m):(J6p ib ((j:Int)+1) e).isSome=true∨e.length < 6:=by
 cases c:(J6p ib ((j:Int)+1) e).isSome with
 | true=>exact .inl rfl
 | false=>have:=cnt_lt c m hj; unfold CaOk at h; exact .inr (by omega)
theorem ca_put {m:Nat} {e:List (Int×Ce)} (h:CaOk m e) {j:Nat} (hj:j < m) (v:Ce):CaOk m (J6x ib ((j:Int)+1) v e):=by
 unfold CaOk at h ⊢
 rw [lenP,Jux,h]
 cases c:(J6p ib ((j:Int)+1) e).isSome with
 | true=>rw [if_pos rfl,if_neg (fun x=>by cases x.2)]; rfl
 | false=>rw [if_neg (by simp),if_pos ⟨hj,rfl⟩]
theorem Jzp (k k2:Int) (v:Ce) (e:List (Int×Ce)):Jfp (J6x ib k v e) k2=if k2=k then v.1.2.1 else Jfp e k2:=by
 unfold Jfp
 rw [getP]
 split <;> rfl
def Jde (y:Ent):Ent:=if 0 < y.2.2.1 then (y.1,y.2.1,0,()) else y
section
variable (g : Nat → Ent) (h : Int) (l : List Pr) (b : Int) (e : List (Int × Ce))
noncomputable def J7a:Nat→List CalT
 | 0=>[]
 | i+1=>J7a i++if 0 < (g i).2.2.1 then [J97 ((i:Int)+1) (g i).1 h l] else []
noncomputable def J9o:Nat→List (Int×Ce)
 | 0=>e
 | i+1=>if 0 < (g i).2.2.1 then J6x ib ((i:Int)+1) (J97 ((i:Int)+1) (g i).1 h l,b,()) (J9o i) else J9o i
theorem Jg0:∀ i,(J7a g h l i).length≤i
 | 0=>Nat.le_refl _
 | i+1=>by unfold J7a; rw [List.length_append]; have:=Jg0 i; split <;> simp <;> omega
theorem Js2 {i:Nat} (c:0 < (g i).2.2.1):J7a g h l (i+1)=J7a g h l i++[J97 ((i:Int)+1) (g i).1 h l]:=by show _++_=_; rw [if_pos c]
theorem Ko {i:Nat} (c:¬ 0 < (g i).2.2.1):J7a g h l (i+1)=J7a g h l i:=by show _++_=_; rw [if_neg c,List.append_nil]
theorem Jkr {i:Nat} (c:0 < (g i).2.2.1):J9o g h l b e (i+1)=J6x ib ((i:Int)+1) (J97 ((i:Int)+1) (g i).1 h l,b,()) (J9o g h l b e i):=if_pos c
theorem Jp3 {i:Nat} (c:¬ 0 < (g i).2.2.1):J9o g h l b e (i+1)=J9o g h l b e i:=if_neg c
end
theorem Jol (g:Nat→Ent) (h:Int) {l:List Pr} (hrow:RowG l):∀ i,∀ c ∈ J7a g h l i,Je8 c
 | 0,c,hc=>by cases hc
 | i+1,c,hc=>by
  unfold J7a at hc
  rcases List.mem_append.1 hc with hc | hc
  ·exact Jol g h hrow i c hc
  ·split at hc
   ·rw [List.mem_singleton] at hc
    have:=(Jhc ((i:Int)+1) (g i).1 h l hrow).2.1
    subst hc; unfold Je8 J97; dsimp only; omega
   ·cases hc
theorem Jkq (g:Nat→Ent) (h:Int) (l:List Pr) (b:Int) {m:Nat} {e:List (Int×Ce)} (he:CaOk m e):∀ i,i≤m→CaOk m (J9o g h l b e i)
 | 0,_=>he
 | i+1,hi=>by
  by_cases c:0 < (g i).2.2.1
  ·rw [Jkr g h l b e c]; exact ca_put (Jkq g h l b he i (by omega)) (by omega) _
  ·rw [Jp3 g h l b e c]; exact Jkq g h l b he i (by omega)
theorem Jdo (g:Nat→Ent) (h:Int) (l:List Pr) (b:Int) (e:List (Int×Ce)) {j:Nat}:∀ i,i≤j→Jfp (J9o g h l b e i) ((j:Int)+1)=Jfp e ((j:Int)+1)
 | 0,_=>rfl
 | i+1,hi=>by
  by_cases c:0 < (g i).2.2.1
  ·rw [Jkr g h l b e c,Jzp,if_neg (by omega),Jdo g h l b e i (by omega)]
  ·rw [Jp3 g h l b e c,Jdo g h l b e i (by omega)]
section
variable {n : Nat} {p f : Nat → Int} {R : List (List Pr)} {now0 : List Pr}
theorem Jxi {B:List Block} (hn0:RowB now0) (hR:∀ l ∈ R,RowB l) (hlen:R.length≤16) {g:Nat→Ent} {m:Nat} (hm:m≤6) (hq:∀ j,j < m→(g j).1.1=1∨(g j).1.1=2) {i:Nat} (hi:R.length - 6≤i∧i < R.length) (hrow:RowG (R.getD i [])) {cli:Cli} (hfz:cli.2.2.2.1=false) {now:Int} (hexp:J0h now cli=some false) (hroot:Jr ((i:Int)+1) cli=some (J9i (R.getD i []),true,cli))
  {e:List (Int×Ce)} (he:CaOk m e) (hlast:∀ j,j < m→Jfp e ((j:Int)+1) < (i:Int)+1) {r:Int×Int×Int×Unit} (hb:0≤r.2.1) (D:List (List UInt8)) (K:List (List (List UInt8))) (V:List Val) (mi:Mir) (x10 x11 x12:Int) (x13:Bool) (x15:List (List UInt8×Int)) (ac:List CalT) (hac:ac.length≤900) (a0 a1 a2 a3 a6 a8 a9 a10:Int) (er:Int) :
  Jt_1 ((i:Int)+1) 1 now (m:Int) () () D K V (stR now0 R) B () cli r (regF g 0 m) () e ([],()) mi x10 x11 x12 x13 () x15 ac a0 a1 a2 a3 () () er 0 a8 a9 () () =
   some (now,(m:Int),(),(),D,K,V,stR now0 R,B,(),cli,r,regF (fun j=>Jde (g j)) 0 m,(),J9o g ((i:Int)+1) (R.getD i []) r.2.1 e m,(J7a g ((i:Int)+1) (R.getD i []) m,()),mi,x10,x11,x12,x13,(),x15,ac++J7a g ((i:Int)+1) (R.getD i []) m,a0,a1,a2,a3,(),(),er,((J7a g ((i:Int)+1) (R.getD i []) m).length:Int),a8,a9,(),()):=by
 have hend:regF (part Jde g m) 0 m=regF (fun j=>Jde (g j)) 0 m:=J99 m 0 fun j _ h2=>if_pos (by omega)
 have hst:regF (part Jde g 0) 0 m=regF g 0 m:=Jwy Jde g m
 rw [← hend,← hst]
 unfold Jt_1
 have:=J6l (step:=fun (s:Int×Cli×List (Int×Ent)×List (Int×Ce)×(List CalT×Unit)×List CalT×Int)=>Jt_1_step ((i:Int)+1) s.1 now (m:Int) () () D K V (stR now0 R) B () s.2.1 r s.2.2.1 () s.2.2.2.1 s.2.2.2.2.1 mi x10 x11 x12 x13 () x15 s.2.2.2.2.2.1 a0 a1 a2 a3 () () er s.2.2.2.2.2.2 a8 a9 () ())
  (fun k (_:Unit)=>((k:Int)+1,cli,regF (part Jde g k) 0 m,J9o g ((i:Int)+1) (R.getD i []) r.2.1 e k,(J7a g ((i:Int)+1) (R.getD i []) k,()),ac++J7a g ((i:Int)+1) (R.getD i []) k,((J7a g ((i:Int)+1) (R.getD i []) k).length:Int))) (fun _ _=>())
  (fun _=>(now,(m:Int),(),(),D,K,V,stR now0 R,B,(),cli,r,regF (part Jde g m) 0 m,(),J9o g ((i:Int)+1) (R.getD i []) r.2.1 e m,(J7a g ((i:Int)+1) (R.getD i []) m,()),mi,x10,x11,x12,x13,(),x15,ac++J7a g ((i:Int)+1) (R.getD i []) m,a0,a1,a2,a3,(),(),er,((J7a g ((i:Int)+1) (R.getD i []) m).length:Int),a8,a9,(),())) m (fun _ _=>True) (fun k w hk _=>⟨?_,trivial⟩) (fun w _=>?_) m 0 () (by omega) trivial
 ·simpa [J7a,J9o] using this
 ·dsimp only
  have hsl:=Jg0 g ((i:Int)+1) (R.getD i []) k
  have hgk:part Jde g k k=g k:=if_neg (Nat.lt_irrefl k)
  unfold Jt_1_step
  rw [J6e (by omega),show J05 () cli r (regF (part Jde g k) 0 m) () (J9o g ((i:Int)+1) (R.getD i []) r.2.1 e k) (J7a g ((i:Int)+1) (R.getD i []) k,()) mi x10 x11 x12 x13 () x15=some () from rfl,J6a,openG hk,J6a,hgk,J6f (n:=(k:Int)+1+1) (by omega) (by omega)]
  by_cases c:0 < (g k).2.2.1
  ·rw [decide_eq_true c,show (!true)=false from rfl,J6k]
   rw [Juc hn0 hR hlen hk (by rw [hgk]; exact c) (by rw [hgk]; exact hq k hk) hi hrow hfz hexp hroot (by rw [Jdo _ _ _ _ _ k (Nat.le_refl _)]; exact hlast k hk) (K1j hm (Jkq _ _ _ _ he k (by omega)) hk) (by omega) (Jol g _ hrow k) hb _ _ _ _ _ _ _ _ _ _ _ (by rw [List.length_append]; omega),J6a,hgk]
   dsimp only
   rw [J6e rfl,J6f (by omega) (by omega),Jkr _ _ _ _ _ c,Js2 _ _ _ c]
   have hp:=Jim Jde g m k hk
   rw [show Jde (g k)=((g k).1,(g k).2.1,0,()) from if_pos c] at hp
   rw [hp,List.length_append,List.append_assoc]
   rfl
  ·rw [decide_eq_false c,show (!false)=true from rfl,J7l,Jp3 _ _ _ _ _ c,Ko _ _ _ c,Jex Jde g m k (if_neg c)]
   rfl
 ·dsimp only
  unfold Jt_1_step
  rw [J6c (by omega)]
theorem K10 (hp:PwOk p) (h1:1≤n) (hn:n≤4) (hR:R.length≤16) (hf:Jh8 R.length f) {j:Nat} (hj:1≤j∧j < R.length) (T now:Int) (hnow:0≤now∧now≤1099511627776) (q1:¬ T < now - f (j - 1)) (q2:f j≤now) (q:Int) (s:Stt) (r:Int×Int×Int×Unit) (e:List (Int×Ent)) (ca:List (Int×Ce)) (cq:List CalT×Unit) (mi:Mir) (x y z:Int) (hb:Bool) (us:List (List UInt8×Int)) (ac:List CalT) :
  J17 ((j:Int)+1) now q () () (J6i n) (J6n n) (J6g p n) s (BL n p f R) () (cliG n p f R T j) r e () ca cq mi x y z hb () us ac=some (0,cliG n p f R T (j+1)):=by
 unfold J17
 rw [K0c hn hR hj.2,J6a]
 dsimp only
 rw [show (!true)=false from rfl,J6k]
 unfold J1g
 rw [K3n hp h1 hn hR hf hj T now hnow q1 q2]
 rfl
theorem serveW (hp:PwOk p) (h1:1≤n) (hn:n≤4) (hn0:RowB now0) (hR:∀ l ∈ R,RowB l) (hlen:R.length≤16) (hf:Jh8 R.length f) {j:Nat} (hj:1≤j∧j+1=R.length) (hrow:RowG (R.getD j [])) {T now:Int} (hnow:0≤now∧now≤1099511627776) (q1:¬ T < now - f (j - 1)) (q2:f j≤now) (q3:¬ T < now - f j) {g:Nat→Ent} {m:Nat} (hm:m≤6) (hq:∀ j,j < m→(g j).1.1=1∨(g j).1.1=2)
  {e:List (Int×Ce)} (he:CaOk m e) (hlast:∀ k,k < m→Jfp e ((k:Int)+1) < (j:Int)+1) {r:Int×Int×Int×Unit} (hb:0≤r.2.1) (mi:Mir) (x y z:Int) (hb2:Bool) (us:List (List UInt8×Int)) (ac:List CalT) (hac:ac.length≤900) :
  Jt now (m:Int) () () (J6i n) (J6n n) (J6g p n) (stR now0 R) (BL n p f R) () (cliG n p f R T j) r (regF g 0 m) () e ([],()) mi x y z hb2 () us ac =
   some (zR 0 ((J7a g ((j:Int)+1) (R.getD j []) m).length:Int) [] [],now,(m:Int),(),(),J6i n,J6n n,J6g p n,stR now0 R,BL n p f R,(),cliG n p f R T (j+1),r,regF (fun k=>Jde (g k)) 0 m,(),J9o g ((j:Int)+1) (R.getD j []) r.2.1 e m,(J7a g ((j:Int)+1) (R.getD j []) m,()),mi,x,y,z,hb2,(),us,ac++J7a g ((j:Int)+1) (R.getD j []) m):=by
 have hBL:=Ju4 n p f R
 unfold Jt
 rw [show J21 () (J6i n) (J6n n) (J6g p n) (stR now0 R) (BL n p f R)=some ((j:Int)+1) from by unfold J21; rw [hBL,← hj.2]; rfl,J6a]
 unfold J1p J22
 rw [show (cliG n p f R T j).1=hdK n p f R j from rfl,show (cliG n p f R T j).2.1=J6g p n from rfl,Jhg _ (by rw [Jfm]; omega),J6a,Jfi p hn,J6a,J6a,J6a]
 dsimp only
 rw [latG hj.1,J6a,show (hL n p f R (j - 1)).1=((j - 1:Nat):Int)+1 from hG_1 _ _ _ _ _,J6e (by omega),K10 hp h1 hn hlen hf ⟨hj.1,by omega⟩ T now hnow q1 q2,J6a]
 dsimp only
 rw [Jxi hn0 hR hlen hm hq (i:=j) (by omega) hrow rfl (by rw [expG hp hn hlen hf (by omega) T now hnow,show j+1 - 1=j from rfl,decide_eq_false q3]) (by
  have:=rootG (n:=n) (p:=p) (f:=f) (R:=R) (j:=j+1) T (h:=j) (by omega)
  exact this) he hlast hb _ _ _ _ _ _ _ _ _ _ hac 0 0 0 0 0 0 0 0 0,J6a]
end
def fI (j:Nat):Int:=(j:Int)+1
theorem Jpg (m:Nat) (hm:m≤1000):Jh8 m fI:=⟨fun i hi=>by unfold fI; omega,fun i hi=>by unfold fI; omega⟩
def Jb6 (b:Int) (g:Nat→Ent):Nat→Ent:=fun j=>askG (b+1) (J9l (b+1) (g j))
theorem Jxo (R:List (List Pr)) (l:List Pr):(R++[l]).getD R.length []=l:=by
 rw [List.getD_eq_getElem?_getD,List.getElem?_append_right (Nat.le_refl _)]; simp
theorem K13 {R:List (List Pr)} {l:List Pr} (hR:∀ x ∈ R,RowB x) (hl:RowB l):∀ x ∈ R++[l],RowB x:=fun x hx=>by
 rcases List.mem_append.1 hx with h | h
 ·exact hR x h
 ·rw [List.mem_singleton.1 h]; exact hl
section
variable {n : Nat} {p : Nat → Int} {R : List (List Pr)} {now0 : List Pr}
theorem Juy (hp:PwOk p) (h1:1≤n) (hn:n≤4) (hn0:RowB now0) (hR:∀ l ∈ R,RowB l) (hlen:1≤R.length∧R.length < 16) :
  Jc ((R.length:Int)+1) () (J6i n) (J6n n) (J6g p n) (stR now0 R) (BL n p fI R)=some ((R.length:Int)+1,(),J6i n,J6n n,J6g p n,stR now0 (R++[now0]),BL n p fI R,BL n p fI (R++[now0])):=
 K1n (f:=fI) hp h1 hn hlen hR hn0 (fun j hj=>by unfold fI; omega) (by unfold fI; omega)
theorem K11 {b:Int} (hp:PwOk p) (h1:1≤n) (hn:n≤4) (hn0:RowB now0) (hR:∀ l ∈ R,RowB l) (hlen:1≤R.length∧R.length < 16) (hrow:RowG now0) {T:Int} (hT:1≤T) {g:Nat→Ent} {m:Nat} (hm:m≤6) (hg:∀ j,Jml (g j)) (hq:∀ j,j < m→(Jb6 b g j).1.1=1∨(Jb6 b g j).1.1=2)
  {e:List (Int×Ce)} (he:CaOk m e) (hlast:∀ j,j < m→Jfp e ((j:Int)+1) < (R.length:Int)+1) {a l:Int} (hb:0≤b∧b < 100000) (hl:0≤l∧l≤100000) {cl:List CalT} (hcl:cl.length≤100) {y z:Int} {us:List (List UInt8×Int)} {s t:Mst3} (hc:Jkl y z us cl s t) (ac:List CalT) (hac:ac.length≤900) {N i c:Int} (hi:i < c) (hi0:0≤i∧i≤1000) (hN:0≤N∧N≤1000) :
  J0e_1_step 1 N c i (R.length:Int) (m:Int) () () (J6i n) (J6n n) (J6g p n) (stR now0 R) () (cliG n p fI R T R.length) (a,b,l,()) (regF g 0 m) () e (cl,()) s.1 s.2.1 y z s.2.2 () us (BL n p fI R) ac =
   some (.inl (N+((J7a (Jb6 b g) ((R.length:Int)+1) now0 m).length:Int),i+1,(R.length:Int)+1,(m:Int),(),(),J6i n,J6n n,J6g p n,stR now0 (R++[now0]),(),cliG n p fI (R++[now0]) T (R.length+1),(a,b+1,l+(J84 (fun j=>J7g (b+1) (g j)) m).length,()),regF (fun j=>Jde (Jb6 b g j)) 0 m,(),J9o (Jb6 b g) ((R.length:Int)+1) now0 (b+1) e m,(J7a (Jb6 b g) ((R.length:Int)+1) now0 m,()),t.1,t.2.1,y,z,t.2.2,(),us,BL n p fI (R++[now0]),ac++J7a (Jb6 b g) ((R.length:Int)+1) now0 m)):=by
 have hl2:(R++[now0]).length=R.length+1:=by rw [List.length_append]; rfl
 have hs:=Jg0 (Jb6 b g) ((R.length:Int)+1) now0 m
 have h3:=Jqw (R.length:Int) (m:Int) (J6i n) (J6n n) (J6g p n) (stR now0 R) (BL n p fI R) (cliG n p fI R T R.length) (a,b,l,()) (regF g 0 m) e (cl,()) s.1 s.2.1 y z s.2.2 us ac ((R.length:Int)+1) (by omega) (by omega)
 have h2:=Jn1 ((R.length:Int)+1) (m:Int) (J6i n) (J6n n) (J6g p n) (stR now0 R) (BL n p fI R) (cliG n p fI R T R.length) (a,b,l,()) (regF g 0 m) e (cl,()) s.1 s.2.1 y z s.2.2 us ac ((R.length:Int)+1) ((R.length:Int)+1) (by omega) _ _ _ (Juy hp h1 hn hn0 hR hlen)
 have hcb:=Jqs (cliG n p fI R T R.length) (m:=m) (by omega) hg a b l hb hl e cl hcl y z us s t hc
 rw [show (fun j=>askG (b+1) (J9l (b+1) (g j)))=Jb6 b g from rfl] at hcb
 have h5:=Jqv ((R.length:Int)+1) (m:Int) (J6i n) (J6n n) (J6g p n) (stR now0 (R++[now0])) (BL n p fI (R++[now0])) (cliG n p fI R T R.length) (a,b,l,()) (regF g 0 m) e (cl,()) s.1 s.2.1 y z s.2.2 us ac _ _ t _ _ hcb
 have hsv:=serveW (n:=n) (p:=p) (f:=fI) (R:=R++[now0]) (now0:=now0) hp h1 hn hn0 (K13 hR hn0) (by omega) (Jpg _ (by omega)) (j:=R.length) (by omega) (by rw [Jxo]; exact hrow) (T:=T) (now:=(R.length:Int)+1) (by omega) (by unfold fI; omega) (by unfold fI; omega) (by unfold fI; omega) hm hq he hlast (r:=(a,b+1,l+(J84 (fun j=>J7g (b+1) (g j)) m).length,())) (by show 0≤b+1; omega) t.1 t.2.1 y z t.2.2 us ac hac
 rw [Jxo,Jmz n p fI R now0 T (Nat.le_refl _)] at hsv
 have h13:=Jyx ((R.length:Int)+1) (m:Int) (J6i n) (J6n n) (J6g p n) (stR now0 (R++[now0])) (BL n p fI (R++[now0])) (cliG n p fI R T R.length) (a,b+1,l+(J84 (fun j=>J7g (b+1) (g j)) m).length,()) (regF (Jb6 b g) 0 m) e ([],()) t.1 t.2.1 y z t.2.2 us ac _ _ 0 0 _ _ _ _ _ hsv
 unfold J0e_1_step
 rw [J6e hi]
 simp only [J30,J6a]
 rw [show max (1:Int) 1=1 from rfl,J6f (n:=(R.length:Int)+1) (by omega) (by omega)]
 rw [show Jd _ _ _ _ _ _ _ _ _ _ _ _ _ _ _ _ _ _ _ _ _ _ _ _ _=_ from h3,J6a]
 dsimp only
 rw [show Jd _ _ _ _ _ _ _ _ _ _ _ _ _ _ _ _ _ _ _ _ _ _ _ _ _=_ from h2,J6a]
 dsimp only
 rw [show Jd _ _ _ _ _ _ _ _ _ _ _ _ _ _ _ _ _ _ _ _ _ _ _ _ _=_ from h5,J6a]
 dsimp only
 rw [show Jd _ _ _ _ _ _ _ _ _ _ _ _ _ _ _ _ _ _ _ _ _ _ _ _ _=_ from h13,J6a]
 dsimp only
 rw [J6f (by omega) (by omega),J6f (by omega) (by omega)]
end
def R1:Pr:=([115,47,97],[9,0],())
theorem Jso:J02 [R1]=some (9,true):=Jg9 [([97],9,0)] (by simp) (fun x hx=>by rw [List.mem_singleton.1 hx]; exact ⟨⟨by decide,by decide⟩,by decide,by decide⟩) (by decide)
theorem Jxb:J81 [R1]:=by simp [J81]
theorem K12:Jyi [R1]:=⟨Jxb,by decide,by decide,by decide⟩
theorem Jq6:RowB [R1]:=by
 have h:=st_set (Joo Jxy) ([115,47,97],[9,0],())
 exact h.1
theorem Jof:∀ l ∈ [([]:List Pr)],RowB l:=fun l h=>by rw [List.mem_singleton.1 h]; exact Jao
theorem Jv6:J3w [] [97] 9=some ([R1],0):=
 K04 [] Jao [97] ⟨by simp,by simp⟩ rfl (by simp) 9 ⟨by decide,by decide⟩ 9 Jso
theorem K22 (D:List (List UInt8)) (K:List (List (List UInt8))) (V:List Val) (B:List Block):J20 (3,[97],[],9,0,()) () D K V (stR [] [[]]) B=some (0,stR [R1] [[]]):=by
 unfold J20
 have e:J0k ([115,47,97],[9,0],()) ([],1,[[]],())=some (true,([R1],1,[[]],())):=by
  rw [Ky _ (by
   have:=Joo Jxy
   exact this)]
  rfl
 rw [show stR [] [[]]=(([],1,[[]],()):Stt) from rfl,Jh6 _ (by simp),J6a]
 show andThen (J3w [] [97] 9) _=_
 rw [Jv6,J6a,J6e (show ((([R1],(0:Int)):List Pr×Int).2=0) from rfl)]
 show andThen (J1c [97]) _=_
 rw [show J1c [97]=some [115,47,97] from rfl,J6a,Jfo [R1] Jxb (by simp),J6a,J6a]
 show andThen (J0k ([115,47,97],[9,0],()) ([],1,[[]],())) _=_
 rw [e]
 rfl
abbrev zM:Mir:=(0,0,[],false,())
theorem call_m (h:Int) (l:List Pr):J97 1 Qm h l=(1,h,J9p l [115,47] [115,48],()):=by
 unfold J97 ansS
 rw [if_neg (fun h=>by cases h.1)]
 rfl
theorem Juu (h:Int):J97 1 Qm h [R1]=(1,h,rowR [([97],9,0)],()):=by rw [call_m]; rfl
theorem led0:Ju5 0 0 0 []:=⟨by omega,by omega,by omega,by omega,by omega,rfl,trivial⟩
def gB (b:Int):Nat→Ent:=fun _=>(Qm,b+1,0,())
theorem K1w (b:Int):∀ j,Jml (gB b j):=fun _=>⟨by show (0:Int)≤1; omega,by show (1:Int)≤1000; omega,by show (0:Int)≤3; omega,by show (3:Int)≤1000; omega⟩
theorem Jbs (b:Int) (h:0≤b):Jb6 b (gB b)=fun _=>(Qm,b+1+1,b+1+3,()):=by
 funext j
 unfold Jb6 J9l J7g gB askG Jb2
 simp [Qm]
 omega
theorem Jxl (b:Int) (h:0≤b):(fun j=>Jde (Jb6 b (gB b) j))=gB (b+1):=by
 rw [Jbs b h]
 funext j
 unfold Jde gB
 rw [if_pos (show 0 < b+1+3 by omega)]
theorem Jwb (b:Int) (h:0≤b):J84 (fun j=>J7g (b+1) (gB b j)) 1=[]:=rfl
theorem Jxh (b:Int) (h:0≤b) (t:Int) (l:List Pr):J7a (Jb6 b (gB b)) t l 1=[J97 1 Qm t l]:=by
 rw [Js2 _ _ _ (by rw [Jbs b h]; show 0 < b+1+3; omega),Jbs b h]
 rfl
theorem Jut (b:Int) (h:0≤b) (t u:Int) (l:List Pr) (e:List (Int×Ce)):J9o (Jb6 b (gB b)) t l u e 1=J6x ib 1 (J97 1 Qm t l,u,()) e:=by
 rw [Jkr _ _ _ _ _ (by rw [Jbs b h]; show 0 < b+1+3; omega),Jbs b h]
 rfl
section
variable {n : Nat} {p : Nat → Int}
theorem K3c (hp:PwOk p) (h1:1≤n) (hn:n≤4):∃ r e ca cq ac,J0e 2 1 1 1 () () (J6i n) (J6n n) (J6g p n) (stR [R1] [[]]) (BL n p fI [[]]) () (cliG n p fI [[]] 50 1) (1,0,0,()) (regF (gB 0) 0 1) () [] ([],()) zM 0 0 0 false () [] [] =
  some (2,3,1,(),(),J6i n,J6n n,J6g p n,stR [R1] [[],[R1],[R1]],(),(cliG n p fI [[],[R1],[R1]] 50 3),r,e,(),ca,([cq],()),(2,9,[R1],false,()),9,0,0,false,(),[],BL n p fI [[],[R1],[R1]],ac)∧Je8 cq:=by
 have A:=K11 (b:=0) (R:=[[]]) (now0:=[R1]) (T:=50) (g:=gB 0) (m:=1) (e:=[]) (a:=1) (l:=0) (cl:=[]) (y:=0) (z:=0) (us:=[]) (s:=(zM,0,false)) (t:=(zM,0,false)) (N:=0) (i:=0) (c:=2) hp h1 hn Jq6 Jof (by simp) (K33 K12) (by omega) (by omega) (K1w 0) (fun j hj=>by rw [Jbs 0 (by omega)]; exact .inr rfl) rfl (fun j hj=>by show (0:Int) < 2; omega) (by omega) (by omega) (by simp) rfl [] (by simp) (by omega) (by omega) (by omega)
 rw [Jxl 0 (by omega),Jwb 0 (by omega),Jxh 0 (by omega),Jut 0 (by omega)] at A
 have hco:=(Jst [([97],9,0)] (by simp) (fun x hx=>by rw [List.mem_singleton.1 hx]; exact ⟨⟨by decide,by decide⟩,by decide,by decide⟩) ((Ji4 _ (by simp [rowR])).trans rfl) 2 ((zM,0,false):Mst3) (by simp) (y:=0) (z:=0) (us:=[]) led0 (by decide)).1
 have Bq:=K11 (b:=0+1) (R:=[[],[R1]]) (now0:=[R1]) (T:=50) (g:=gB (0+1)) (m:=1) (e:=J6x ib 1 (J97 1 Qm 2 [R1],0+1,()) []) (a:=1) (l:=0+0) (cl:=[J97 1 Qm 2 [R1]]) (y:=0) (z:=0) (us:=[]) (s:=(zM,0,false)) (t:=((2,9,[R1],false,()),9,false)) (N:=0+1) (i:=0+1) (c:=2) hp h1 hn Jq6 (K13 Jof Jq6) (by simp) (K33 K12) (by omega) (by omega) (K1w _) (fun j hj=>by rw [Jbs (0+1) (by omega)]; exact .inr rfl) rfl (fun j hj=>by
  obtain rfl:j=0:=by omega
  show (2:Int) < 3; omega) (by omega) (by omega) (by simp) ⟨_,by rw [Juu]; exact hco,rfl⟩ [J97 1 Qm 2 [R1]] (by simp) (by omega) (by omega) (by omega)
 rw [Jxl (0+1) (by omega),Jwb (0+1) (by omega),Jxh (0+1) (by omega),Jut (0+1) (by omega)] at Bq
 refine ⟨(1,2,0,()),regF (gB 2) 0 1,J6x ib 1 (J97 1 Qm 3 [R1],2,()) (J6x ib 1 (J97 1 Qm 2 [R1],1,()) []),J97 1 Qm 3 [R1],[J97 1 Qm 2 [R1],J97 1 Qm 3 [R1]],?_,by rw [Juu]; show (1:Nat)≤1000; omega⟩
 unfold J0e J0e_1
 rw [show max (2:Int) 0=2 from rfl,J77 (s':=_) A,J77 (s':=_) Bq,J6z rfl]
 rfl
theorem Jyu (hn:n≤4) {R:List (List Pr)} (f:Nat→Int) (now q:Int) (s:Stt) (B:List Block) (T:Int) (j:Nat) (r:Int×Int×Int×Unit) (e:List (Int×Ent)) (ca:List (Int×Ce)) (cl:List CalT) (hcl:cl.length≤100) (hc:∀ c ∈ cl,Je8 c) (mh mb:Int) (mr:List Pr) (hmr:mr.length≤1000) (mx:Bool) (x y z:Int) (hb:Bool) (us:List (List UInt8×Int)) (ac:List CalT) :
  J2u now q () () (J6i n) (J6n n) (J6g p n) s B () (cliG n p f R T j) r e () ca (cl,()) (mh,mb,mr,mx,()) x y z hb () us ac =
   some ((),(T,false,()),hdK n p f R j,J6g p n,(),(cl,()),mh,mb,(mx,()),mr):=by
 unfold J2u J36 J22
 rw [show (cliG n p f R T j).1=hdK n p f R j from rfl,show (cliG n p f R T j).2.1=J6g p n from rfl,Jhg _ (by rw [Jfm]; omega),J6a,Jfi p hn,J6a,J6a]
 unfold J3v J3j J32 Jj
 rw [show J26 r e=some () from rfl,J6a,show J3t () ca=some () from rfl,J6a,Jp6 cl (by omega) hc,J6a,J6a,J6b (by dsimp only; omega),J6a,J6a,show J2s x y z hb () us=some () from rfl,J6a,J6a]
 rfl
theorem awakeN (hp:PwOk p) (h1:1≤n) (hn:n≤4) (hch:Jh [1]=some ((),J6i n,J6n n,J7o n,J6g p n)):J1d=some true:=by
 obtain ⟨r,e,ca,cq,ac,hS,hcq⟩:=K3c (n:=n) (p:=p) hp h1 hn
 have hw:=Jow (n:=n) (p:=p) (f:=fI) hp h1 hn rfl 50 (by omega)
 rw [show ([hL n p fI [[]] 0],J6g p n,(50:Int),false,())=cliG n p fI [[]] 50 1 from rfl,show regF gM 0 1=regF (gB 0) 0 1 from rfl] at hw
 have hT:=do_tx0 1 1 (J6i n) (J6n n) (J6g p n) (stR [] [[]]) (BL n p fI [[]]) (cliG n p fI [[]] 50 1) (1,0,0,()) (regF (gB 0) 0 1) [] ([],()) zM 0 0 0 false [] (3,[97],[],9,0,()) 0 (stR [R1] [[]]) (K22 _ _ _ _)
 have hC:=Jyu (n:=n) (p:=p) hn fI 3 1 (stR [R1] [[],[R1],[R1]]) (BL n p fI [[],[R1],[R1]]) 50 3 (R:=[[],[R1],[R1]]) r e ca [cq] (by simp) (by simpa using hcq) 2 9 [R1] (by simp) false 9 0 0 false [] ac
 unfold J1d
 rw [hch,J6a]
 dsimp only
 rw [hw,J6a]
 dsimp only
 rw [show (!decide ((0:Int)=0))=false from rfl,J6k]
 rw [show J35 _ _ _ _ _ _ _ _ _ _ _ _ _ _ _ _ _ _ _ _ _ _ _ _=_ from hT,J6a]
 dsimp only
 rw [hS,J6a]
 dsimp only
 rw [hC,J6a]
 rfl
end
theorem Jsn:J1d=some true:=by
 obtain ⟨h1,hn⟩:=Js3 [1]
 exact awakeN (K2k [1]) h1 hn (Jqr [1] (by simp))
def R0 (k:Nat):List (List Pr):=List.replicate k []
theorem Ju6 (k:Nat):(R0 k).length=k:=List.length_replicate
theorem Ju7 (k:Nat):R0 k++[[]]=R0 (k+1):=List.replicate_succ'.symm
theorem R0_b (k:Nat):∀ l ∈ R0 k,RowB l:=fun l h=>by rw [List.eq_of_mem_replicate h]; exact Jao
theorem R0_at (k i:Nat):(R0 k).getD i []=[]:=by
 rw [List.getD_eq_getElem?_getD,R0,List.getElem?_replicate]
 split <;> rfl
theorem K34:RowG []:=K33 ⟨by simp [J81],by simp,by simp,by simp⟩
section
variable {n : Nat} {p : Nat → Int}
theorem Jw5 (hp:PwOk p) (h1:1≤n) (hn:n≤4) (a:Int) (k:Nat) (hk:k≤12) :
  J03_1 a (k:Int) (k:Int) 0 1 1 () () (J6i n) (J6n n) (J6g p n) (stR [] (R0 1)) (BL n p fI (R0 1)) () (cliG n p fI (R0 1) 200 1) (1,0,0,()) (regF (gB 0) 0 1) () [] ([],()) zM 0 0 0 false () [] [] =
   some (a,(k:Int),(k:Int)+1,1,(),(),J6i n,J6n n,J6g p n,stR [] (R0 (k+1)),BL n p fI (R0 (k+1)),(),cliG n p fI (R0 (k+1)) 200 (k+1),(1,0,0,()),regF (gB 0) 0 1,(),[],([],()),zM,0,0,0,false,(),[],[]):=by
 unfold J03_1
 refine J6l (step:=fun (s:Int×Int×Int×Unit×Unit×List (List UInt8)×List (List (List UInt8))×List Val×Stt×List Block×Unit×Cli×(Int×Int×Int×Unit)×List (Int×Ent)×Unit×List (Int×Ce)×(List CalT×Unit)×Mir×Int×Int×Int×Bool×Unit×List (List UInt8×Int)×List CalT)=>J03_1_step a (k:Int) (k:Int) s.1 s.2.1 s.2.2.1 s.2.2.2.1 s.2.2.2.2.1 s.2.2.2.2.2.1 s.2.2.2.2.2.2.1 s.2.2.2.2.2.2.2.1 s.2.2.2.2.2.2.2.2.1 s.2.2.2.2.2.2.2.2.2.1 s.2.2.2.2.2.2.2.2.2.2.1 s.2.2.2.2.2.2.2.2.2.2.2.1 s.2.2.2.2.2.2.2.2.2.2.2.2.1 s.2.2.2.2.2.2.2.2.2.2.2.2.2.1 s.2.2.2.2.2.2.2.2.2.2.2.2.2.2.1 s.2.2.2.2.2.2.2.2.2.2.2.2.2.2.2.1 s.2.2.2.2.2.2.2.2.2.2.2.2.2.2.2.2.1 s.2.2.2.2.2.2.2.2.2.2.2.2.2.2.2.2.2.1 s.2.2.2.2.2.2.2.2.2.2.2.2.2.2.2.2.2.2.1 s.2.2.2.2.2.2.2.2.2.2.2.2.2.2.2.2.2.2.2.1 s.2.2.2.2.2.2.2.2.2.2.2.2.2.2.2.2.2.2.2.2.1 s.2.2.2.2.2.2.2.2.2.2.2.2.2.2.2.2.2.2.2.2.2.1 s.2.2.2.2.2.2.2.2.2.2.2.2.2.2.2.2.2.2.2.2.2.2.1 s.2.2.2.2.2.2.2.2.2.2.2.2.2.2.2.2.2.2.2.2.2.2.2.1 s.2.2.2.2.2.2.2.2.2.2.2.2.2.2.2.2.2.2.2.2.2.2.2.2)
  (fun i (_:Unit)=>((i:Int),(i:Int)+1,1,(),(),J6i n,J6n n,J6g p n,stR [] (R0 (i+1)),BL n p fI (R0 (i+1)),(),cliG n p fI (R0 (i+1)) 200 (i+1),(1,0,0,()),regF (gB 0) 0 1,(),[],([],()),zM,0,0,0,false,(),[],[])) (fun _ _=>()) (fun _=>(a,(k:Int),(k:Int)+1,1,(),(),J6i n,J6n n,J6g p n,stR [] (R0 (k+1)),BL n p fI (R0 (k+1)),(),cliG n p fI (R0 (k+1)) 200 (k+1),(1,0,0,()),regF (gB 0) 0 1,(),[],([],()),zM,0,0,0,false,(),[],[])) k (fun _ _=>True) (fun i w hi _=>⟨?_,trivial⟩) (fun w _=>?_) k 0 () (by omega) trivial
 ·dsimp only
  have hl:=Ju6 (i+1)
  have hl2:=Ju6 (i+2)
  have hc:=Juy (n:=n) (p:=p) (R:=R0 (i+1)) (now0:=[]) hp h1 hn Jao (R0_b _) (by omega)
  rw [Ju7,hl] at hc
  have h2:=Jn1 ((i:Int)+1) 1 (J6i n) (J6n n) (J6g p n) (stR [] (R0 (i+1))) (BL n p fI (R0 (i+1))) (cliG n p fI (R0 (i+1)) 200 (i+1)) (1,0,0,()) (regF (gB 0) 0 1) [] ([],()) zM 0 0 0 false [] [] (((i+1:Nat):Int)+1) (((i+1:Nat):Int)+1) (by omega) _ _ _ hc
  have h3:=Jqw ((i:Int)+1) 1 (J6i n) (J6n n) (J6g p n) (stR [] (R0 (i+2))) (BL n p fI (R0 (i+2))) (cliG n p fI (R0 (i+1)) 200 (i+1)) (1,0,0,()) (regF (gB 0) 0 1) [] ([],()) zM 0 0 0 false [] [] (((i+1:Nat):Int)+1) (by omega) (by omega)
  have hr:=K10 (n:=n) (p:=p) (f:=fI) (R:=R0 (i+2)) hp h1 hn (by omega) (Jpg _ (by omega)) (j:=i+1) (by omega) 200 (((i+1:Nat):Int)+1) (by omega) (by unfold fI; omega) (by unfold fI; omega) 1 (stR [] (R0 (i+2))) (1,0,0,()) (regF (gB 0) 0 1) [] ([],()) zM 0 0 0 false [] []
  have hcl:=Jmz n p fI (R0 (i+1)) [] 200 (j:=i+1) (by omega)
  rw [Ju7] at hcl
  rw [hcl] at hr
  have h4:=Jyw (((i+1:Nat):Int)+1) 1 (J6i n) (J6n n) (J6g p n) (stR [] (R0 (i+2))) (BL n p fI (R0 (i+2))) (cliG n p fI (R0 (i+1)) 200 (i+1)) (1,0,0,()) (regF (gB 0) 0 1) [] ([],()) zM 0 0 0 false [] [] (((i+1:Nat):Int)+1) _ _ hr
  unfold J03_1_step
  rw [J6e (by omega),J6f (n:=(2:Int)+(i:Int)) (by omega) (by omega),show (2:Int)+(i:Int)=((i+1:Nat):Int)+1 from by omega]
  rw [show Jd _ _ _ _ _ _ _ _ _ _ _ _ _ _ _ _ _ _ _ _ _ _ _ _ _=_ from h2,J6a]
  dsimp only
  rw [show Jd _ _ _ _ _ _ _ _ _ _ _ _ _ _ _ _ _ _ _ _ _ _ _ _ _=_ from h3,J6a]
  dsimp only
  rw [show Jd _ _ _ _ _ _ _ _ _ _ _ _ _ _ _ _ _ _ _ _ _ _ _ _ _=_ from h4,J6a]
  dsimp only
  rw [J6f (n:=(i:Int)+1) (by omega) (by omega)]
  rfl
 ·dsimp only
  unfold J03_1_step
  rw [J6c (by omega)]
theorem Jp1 {R:List (List Pr)} {now0:List Pr} {B:List Block} (hn0:RowB now0) (hR:∀ l ∈ R,RowB l) (hlen:R.length≤16) {g:Nat→Ent} {m j:Nat} (hj:j < m) {h:Int} (hh:¬ (1≤h∧(R.length:Int) - 6 < h∧h≤(R.length:Int))) (cli:Cli) (now:Int) (e:List (Int×Ce)) (cq:List CalT×Unit) (r:Int×Int×Int×Unit) (q:Int) (D:List (List UInt8)) (K:List (List (List UInt8))) (V:List Val) (mi:Mir) (x10 x11 x12:Int) (x13:Bool) (x15:List (List UInt8×Int)) (ac:List CalT) :
  J0a ((j:Int)+1) h now q () () D K V (stR now0 R) B () cli r (regF g 0 m) () e cq mi x10 x11 x12 x13 () x15 ac=some (3,cli,regF g 0 m,e,cq,ac):=by
 have hAt:J1z h () D K V (stR now0 R) B=some ([],false):=by
  unfold J1z
  rw [Jxw _ (Jxx hn0 hR hlen),J6a,K14,if_neg hh]
 unfold J0a
 rw [show J05 () cli r (regF g 0 m) () e cq mi x10 x11 x12 x13 () x15=some () from rfl,J6a,K2l hj,J6a,hAt,J6a]
 dsimp only
 rw [show (!true)=false from rfl,J6k,show (!false)=true from rfl,J7l]
theorem keptN (hp:PwOk p) (h1:1≤n) (hn:n≤4) (y0 y1:Int) {W:Type} (u:W)
  (hb:∃ u,J3q [1] 200 1 3=some (1,1,(),(),J6i n,J6n n,J6g p n,stR [] [[]],BL n p fI [[]],(),cliG n p fI [[]] 200 1,(1,0,0,()),regF (gB 0) 0 1,(),[],([],()),zM,0,0,0,false,(),[],u)):J03 y0 y1=some true:=by
 obtain ⟨u,hb⟩:=hb
 obtain ⟨k0,hk,k1,k2⟩:=Jja y0 1 12 (by omega) (by omega) (by omega)
 obtain ⟨k,rfl⟩:∃ k:Nat,k0=(k:Int):=⟨k0.toNat,by omega⟩
 obtain ⟨x,hx,x1,x2⟩:=Jja y1 0 ((k:Int)+3) (by omega) (by omega) (by omega)
 have hl:=Ju6 (k+1)
 have hcb:=Jqs (cliG n p fI (R0 (k+1)) 200 (k+1)) (m:=1) (by omega) (K1w 0) 1 0 0 (by omega) (by omega) [] [] (by simp) 0 0 [] (zM,0,false) (zM,0,false) rfl
 rw [show (fun j=>askG (0+1) (J9l (0+1) (gB 0 j)))=Jb6 0 (gB 0) from rfl] at hcb
 have h5:=Jqv ((k:Int)+1) 1 (J6i n) (J6n n) (J6g p n) (stR [] (R0 (k+1))) (BL n p fI (R0 (k+1))) (cliG n p fI (R0 (k+1)) 200 (k+1)) (1,0,0,()) (regF (gB 0) 0 1) [] ([],()) zM 0 0 0 false [] [] _ _ (zM,0,false) _ _ hcb
 have hA:∃ er c' e' ca' cq' ac',J0a 1 x ((k:Int)+1) 1 () () (J6i n) (J6n n) (J6g p n) (stR [] (R0 (k+1))) (BL n p fI (R0 (k+1))) () (cliG n p fI (R0 (k+1)) 200 (k+1)) (1,0+1,0+((J84 (fun j=>J7g (0+1) (gB 0 j)) 1).length:Int),()) (regF (Jb6 0 (gB 0)) 0 1) () [] ([],()) zM 0 0 0 false () [] []=some (er,c',e',ca',cq',ac')∧er=if 1≤x∧(k:Int)+1 - 6 < x∧x≤(k:Int)+1 then 0 else 3:=by
  by_cases hm:1≤x∧(k:Int)+1 - 6 < x∧x≤(k:Int)+1
  ·obtain ⟨i,rfl⟩:∃ i:Nat,x=(i:Int)+1:=⟨(x - 1).toNat,by omega⟩
   have:=Juc (R:=R0 (k+1)) (now0:=[]) (B:=BL n p fI (R0 (k+1))) Jao (R0_b _) (by omega) (g:=Jb6 0 (gB 0)) (m:=1) (j:=0) (by omega) (by rw [Jbs 0 (by omega)]; show (0:Int) < 0+1+3; omega) (by rw [Jbs 0 (by omega)]; exact .inr rfl) (i:=i) (by omega) (by rw [R0_at]; exact K34) (cli:=cliG n p fI (R0 (k+1)) 200 (k+1)) rfl (now:=(k:Int)+1) (by
    rw [expG hp hn (by omega) (Jpg _ (by omega)) (by omega) 200 _ (by omega),decide_eq_false (by unfold fI; omega)]) (by
    have:=rootG (n:=n) (p:=p) (f:=fI) (R:=R0 (k+1)) (j:=k+1) 200 (h:=i) (by omega)
    exact this) (e:=[]) (by show (0:Int) < (i:Int)+1; omega) (.inr (by simp)) (cl:=[]) (by simp) (by simp) (r:=(1,0+1,0+((J84 (fun j=>J7g (0+1) (gB 0 j)) 1).length:Int),())) (by show (0:Int)≤0+1; omega) 1 (J6i n) (J6n n) (J6g p n) zM 0 0 0 false [] [] (by simp)
   exact ⟨_,_,_,_,_,_,this,(if_pos hm).symm⟩
  ·have:=Jp1 (R:=R0 (k+1)) (now0:=[]) (B:=BL n p fI (R0 (k+1))) Jao (R0_b _) (by omega) (g:=Jb6 0 (gB 0)) (m:=1) (j:=0) (by omega) (h:=x) (by rw [hl]; omega) (cliG n p fI (R0 (k+1)) 200 (k+1)) ((k:Int)+1) [] ([],()) (1,0+1,0+((J84 (fun j=>J7g (0+1) (gB 0 j)) 1).length:Int),()) 1 (J6i n) (J6n n) (J6g p n) zM 0 0 0 false [] []
   exact ⟨_,_,_,_,_,_,this,(if_neg hm).symm⟩
 obtain ⟨er,c',e',ca',cq',ac',hA,her⟩:=hA
 have h8:=Jv9 ((k:Int)+1) 1 (J6i n) (J6n n) (J6g p n) (stR [] (R0 (k+1))) (BL n p fI (R0 (k+1))) (cliG n p fI (R0 (k+1)) 200 (k+1)) (1,0+1,0+((J84 (fun j=>J7g (0+1) (gB 0 j)) 1).length:Int),()) (regF (Jb6 0 (gB 0)) 0 1) [] ([],()) zM 0 0 0 false [] [] 1 x er c' e' ca' cq' ac' hA
 have hloop:=Jw5 (n:=n) (p:=p) hp h1 hn y1 k (by omega)
 rw [show R0 1=[[]] from rfl] at hloop
 unfold J03
 rw [hb,J6a,hk,J6a]
 dsimp only
 rw [show J03_1 _ _ _ _ _ _ _ _ _ _ _ _ _ _ _ _ _ _ _ _ _ _ _ _ _ _ _ _=_ from hloop,J6a]
 dsimp only
 rw [show Jd _ _ _ _ _ _ _ _ _ _ _ _ _ _ _ _ _ _ _ _ _ _ _ _ _=_ from h5,J6a]
 dsimp only
 rw [J6f (n:=(k:Int)+3) (by omega) (by omega),hx,J6a]
 rw [show Jd _ _ _ _ _ _ _ _ _ _ _ _ _ _ _ _ _ _ _ _ _ _ _ _ _=_ from h8,J6a]
 dsimp only
 rw [J6f (n:=(k:Int)+1) (by omega) (by omega),J6f (n:=(k:Int)+1 - 6) (by omega) (by omega),Jsn]
 subst her
 by_cases c1:1≤x
 ·rw [J6e c1]
  by_cases c2:x≤(k:Int)+1
  ·rw [J6e c2]
   by_cases c3:(k:Int)+1 - 6 < x
   ·rw [if_pos ⟨c1,c3,c2⟩,decide_eq_true c3]; rfl
   ·rw [if_neg (by omega),decide_eq_false c3]; rfl
  ·rw [J6c c2,if_neg (by omega)]; rfl
 ·rw [J6c c1,if_neg (by omega)]; rfl
end
theorem law_TopKept (y0 y1:Int) (w0:Wf (.int .i64) y0) (w1:Wf (.int .i64) y1):J03 y0 y1=some true:=by
 obtain ⟨h1,hn⟩:=Js3 [1]
 exact keptN (K2k [1]) h1 hn y0 y1 () (begunG [1] (by simp) fI rfl 200 (by omega))
end Go.Ax.V
