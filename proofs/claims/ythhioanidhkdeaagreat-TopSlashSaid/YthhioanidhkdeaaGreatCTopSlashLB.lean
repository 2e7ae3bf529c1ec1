/-
  A slash on the host lowers the rate, a reward raises it, a delegation too; shares stay.
-/
import Derived.Test.YthhioanidhkdeaaGreatCTopSlashLA
namespace Go.Ax.V
open Go.Ax
set_option linter.unusedVariables false
set_option linter.unusedSimpArgs false
section
variable {n : Nat} {p : Nat → Int} {f : Nat → Int}
theorem K25 (hp:PwOk p) (h1:1≤n) (hn:n≤4) (hf:0≤f 0∧f 0≤1000000000):Js (f 0) () (J6k n) (J6n n) (J6i p n) ([],0,[],())=some (1,(),J6k n,J6n n,J6i p n,stR [] [[]],BL n p f [[]]):=by
 have hsm:=Jmp p n hn
 have e0:J8d ((1:Int),f 0,J9m [],List.replicate 32 (0:UInt8),setH (J6i p n),List.replicate 32 (0:UInt8),())=true:=by
  rw [Jc1]; show ((1:Int)≤1∧(1:Int)≤16)∧0≤f 0∧f 0≤1073741824; omega
 have hh:J8q ((1:Int),f 0,J9m [],setH (J6i p n),setH (J6i p n),List.replicate 32 (0:UInt8),()):=⟨J81 _,J8m _,J8m _,by simp⟩
 unfold Js
 rw [Jau _ (by simp),J6c,Jjj [] ⟨by simp,by simp⟩,J6c,J9f _ hsm,J6c,Jcy,J6c,e0]
 rw [show (!true)=false from rfl,J6j,J6c,Jfz p hn,J6c,J6c,Jac]
 show andThen (Js_1 (n:Int) 0 () (J6k n) (J6n n) (J6i p n) ([],0,[],()) _ _ () [] (J6i p n) (J6i p n)) _=_
 rw [hcA n hn p _ hh (Int.le_refl 1) (show (1:Int)≤16 by omega),J6c,Jvj [] (by simp),J6c,J6d (by simp),Jji _ Jyh,J6c]
 show some _=some (1,(),J6k n,J6n n,J6i p n,stR [] [[]],blG n (rR [[]]) (fun _=>J6i p n) f 1)
 rfl
theorem K26 (hp:PwOk p) (h1:1≤n) (hn:n≤4) {R:List (List Pr)} (hR:1≤R.length∧R.length < 16) (hrows:∀ l ∈ R,RowB l) {now:List Pr} (hnow:RowB now) (hf:∀ j,j≤R.length→0≤f j∧f j≤1000000000) (hlt:f (R.length - 1) < f R.length) :
  Jd (f R.length) () (J6k n) (J6n n) (J6i p n) (stR now R) (BL n p f R)=some ((R.length:Int)+1,(),J6k n,J6n n,J6i p n,stR now (R++[now]),BL n p f R,BL n p f (R++[now])):=by
 obtain ⟨k,hk⟩:∃ k,R.length=k+1:=⟨R.length - 1,by omega⟩
 have hsm:=Jmp p n hn
 have hkv:=K3o hnow
 have hlen:=Juu n p f R
 have hs:=Jkz hnow hrows (by omega)
 have hfk:=hf (k+1) (by omega)
 have hlast:lastB (BL n p f R)=gL n p f R k:=by
  unfold BL gL; rw [hk]; exact Kc _ _ _ _ _
 have e0:J8d (((k+2:Nat):Int),f (k+1),J9m now,List.replicate 32 (0:UInt8),setH (J6i p n),List.replicate 32 (0:UInt8),())=true:=by
  rw [Jc1]; show ((1:Int)≤((k+2:Nat):Int)∧((k+2:Nat):Int)≤16)∧0≤f (k+1)∧f (k+1)≤1073741824; omega
 have e1:w64 (((k+1:Nat):Int)+1)=((k+2:Nat):Int):=by rw [J6h (by omega) (by omega)]; omega
 have e2:w64 (((k+1:Nat):Int) - 1)=((k:Nat):Int):=by rw [J6h (by omega) (by omega)]; omega
 have e3:(BL n p f R).getD k zBlk=gL n p f R k:=BL_at n p f R (by omega)
 have hg:J8q (hL n p f R k):=Jo0 n _ f (K1k R k)
 have hh:J8q (((k+2:Nat):Int),f (k+1),J9m now,setH (J6i p n),setH (J6i p n),sha (72::Jc8 (hL n p f R k)),()):=⟨J81 _,J8m _,J8m _,J81 _⟩
 have e5:Jc8 (hL n p f R k)=Jfw (hL n p f R k):=by
  unfold Jc8 hL
  rw [Jlz (by omega) (hf k (by omega)).1 (by have:=(hf k (by omega)).2; omega),if_pos rfl]
 have ht:(hL n p f R k).2.1=f k:=hG_t _ _ _ _ _
 rw [hk] at hlt ⊢
 unfold Jd
 rw [Jau _ (by show now.length≤_; have:=hkv.1; omega),J6c]
 show andThen (J0t now) _=_
 rw [Jjj _ hkv,J6c,J9f _ hsm,J6c,Jcy,J6c,hlen,hk,e1,e0]
 rw [show (!true)=false from rfl,J6j,J6g (by omega),e2,J6d ⟨by omega,by omega⟩,show (Int.toNat ((k:Nat):Int))=k from rfl]
 rw [show ((((0:Int),(0:Int),(List.replicate 32 (0:UInt8)),(List.replicate 32 (0:UInt8)),(List.replicate 32 (0:UInt8)),(List.replicate 32 (0:UInt8)),()),([]:List J7d),([]:List Val),([]:List Val),()):Block)=zBlk from rfl,e3]
 rw [show (gL n p f R k).1=hL n p f R k from rfl,show (gL n p f R k).2.2.2.1=J6i p n from rfl,ht,J6e (by simp only [Nat.add_sub_cancel] at hlt; omega)]
 rw [Jid _ hg,J6c,J9f _ hsm,J6c,Jfz p hn,J6c,J6c,Jac]
 show andThen (Jd_1 (J6i p n) (n:Int) 0 () (J6k n) (J6n n) (J6i p n) (stR now R) (BL n p f R) _ _ () [] (J6i p n) (J6i p n)) _=_
 rw [hcB n hn p _ hh (show (1:Int)≤((k+2:Nat):Int) by omega) (show ((k+2:Nat):Int)≤16 by omega),J6c,Jvj _ (by rw [hlen]; omega),J6c,J6d (by rw [hlen]; simp; omega),Jji _ hs,J6c,e5,Jum (by omega),hk]
 rw [K1r]
 unfold blkR hdR nowS
 rw [hlen,if_neg (by omega),if_neg (by omega),hlast,hk]
 rw [show (((k+1:Nat):Int)+1)=((k+2:Nat):Int) from by omega]
 rfl
theorem K0u (hn:n≤4) {R:List (List Pr)} (hR:R.length≤16) {j:Nat} (hj:j < R.length) (st:Stt):J19 ((j:Int)+1) () (J6k n) (J6n n) (J6i p n) st (BL n p f R)=some (gL n p f R j,true):=by
 have hlen:=Juu n p f R
 have e2:w64 ((j:Int)+1 - 1)=(j:Int):=by rw [J6h (by omega) (by omega)]; omega
 have hpre:preS (fun _=>J6i p n) j=J6i p n:=by unfold preS; split <;> rfl
 unfold J19
 rw [hlen,J6e (by omega),J6e (by omega),e2,J6d ⟨by omega,by omega⟩,show Int.toNat (j:Int)=j from rfl]
 rw [show ((((0:Int),(0:Int),(List.replicate 32 (0:UInt8)),(List.replicate 32 (0:UInt8)),(List.replicate 32 (0:UInt8)),(List.replicate 32 (0:UInt8)),()),([]:List J7d),([]:List Val),([]:List Val),()):Block)=zBlk from rfl,BL_at n p f R hj]
 rw [show (gL n p f R j).2.1=sgJ (hL n p f R j) (List.range n) from rfl,show (gL n p f R j).2.2.1=J6i p n from hpre,show (gL n p f R j).2.2.2.1=J6i p n from rfl]
 rw [show J2f (sgJ (hL n p f R j) (List.range n))=some (sgJ (hL n p f R j) (List.range n)) from by unfold J2f; rw [J6d (by rw [Jgh,List.length_range]; omega)],J6c,Jfz p hn,J6c,J6c]
 show some ((hL n p f R j,sgJ (hL n p f R j) (List.range n),J6i p n,J6i p n,()),true)=some ((hL n p f R j,sgJ (hL n p f R j) (List.range n),preS (fun _=>J6i p n) j,J6i p n,()),true)
 rw [hpre]
end
def Qm:Qry:=(2,[115,47],[115,48],1,3,())
theorem cmD (n:Nat) (hn:n≤4) (S:List Val) (h:Hdr) (nx:List Val) (hk:w64 ((0:Int)+1)=h.1) (h1:1≤h.1) (h2:h.1≤16) (N:List Pr) (W:List Val) (B:List Block) (R:Rows) :
  J6_2 0 (J6k n) (n:Int) 0 (J6k n,J6n n,J7r n,N,W,B,R,()) h () [] nx (Jjl h)=some (0,(J6k n,J6n n,J7r n,N,W,B,R,()),h,(),sgJ h (List.range n),nx):=by
 have e1:(J6k n).length=n:=J95 _ _
 have e2:(J6n n).length=n:=J95 _ _
 have e3:(J7r n).length=n:=J95 _ _
 unfold J6_2
 have:=J6o (step:=fun (t:Int×List J7d)=>J6_2_step 0 (J6k n) (n:Int) t.1 (J6k n,J6n n,J7r n,N,W,B,R,()) h () t.2 nx (Jjl h)) (fun i (_:Unit)=>((i:Int),sgJ h (List.range i))) (fun _ _=>()) (fun _=>(0,(J6k n,J6n n,J7r n,N,W,B,R,()),h,(),sgJ h (List.range n),nx)) n (fun _ _=>True) (fun i w hi _=>⟨?_,trivial⟩) (fun w _=>?_) n 0 () (by omega) trivial
 ·exact this
 ·show J6_2_step 0 (J6k n) (n:Int) (i:Int) (J6k n,J6n n,J7r n,N,W,B,R,()) h () (sgJ h (List.range i)) nx (Jjl h)=_
  unfold J6_2_step
  have g1:(J6k n).getD i (List.replicate 32 (0:UInt8))=J9x i:=J7x _ _ hi
  have g2:(J6n n).getD i []=J92 (J9x i):=J7x _ _ hi
  have g3:(J7r n).getD i []=nm i:=J7x _ _ hi
  dsimp only
  rw [J6g (by omega),J6d (by omega),J6d (by omega),J6d (by omega),Int.toNat_natCast,g1,g2,g3,hk,rBy_eq _ (by rw [J8i]; omega) (Je9 _) _ _ (Jfj i) _ h1 h2 (by rw [Jjm]; omega),J6c,J6d (by rw [Jgh,List.length_range]; simp only [List.length_cons,List.length_nil]; omega),J6h (n:=(i:Int)+1) (by omega) (by omega),Jmw]
  rfl
 ·show J6_2_step 0 (J6k n) (n:Int) (n:Int) (J6k n,J6n n,J7r n,N,W,B,R,()) h () (sgJ h (List.range n)) nx (Jjl h)=_
  unfold J6_2_step
  rw [J6e (by omega)]
theorem K27 (n:Nat) (hn:n≤4) (S:List Val) (hS:Jpi S):∃ b,J6 1 (J6k n,J6n n,J7r n,[],S,[],[],())=some (1,(J6k n,J6n n,J7r n,[],S,[b],[[]],())):=by
 have e1:(J6k n).length=n:=J95 _ _
 have hSl:=hS.1
 have hnil:([]:List Val)++S=S:=rfl
 have hr:=Jwm (S:=S) (B:=[]) (t:=1) (by simp) (by omega) (by omega)
 have hh:=Jtu S [] 1
 have hd1:=hdS_1 S [] 1
 have w1:w64 ((([]:List Block).length:Int)+1)=1:=rfl
 have hh0:((1:Int),(1:Int),Jxx,setH S,setH S,List.replicate 32 (0:UInt8),())=hdS S [] 1:=by unfold hdS; rfl
 unfold J6
 dsimp only
 rw [J6e (by simp),J6e (by omega),J6e (by omega),J6e (by simp),J6d (by simp only [List.length_nil]; omega),Jn0,J6c,hnil,Jqw S hS,J6c,J6c,w1,hh0,Jox _ hh,J6c,← Jyl hr,e1]
 rw [show (([]:List Block).length:Int)=0 from rfl,cmD n hn S _ S (by rw [hd1]; rfl) (by rw [hd1]; simp) (by rw [hd1]; simp),J6c]
 dsimp only
 rw [J6d (by simp),J6d (by simp),J6d (by simp),J6d (by simp)]
 exact ⟨_,rfl⟩
theorem K01 (n:Nat) (hn:n≤4) (S:List Val) (hS:Jpi S) (T:Int):∃ u,J2k T 1 3 () (J6k n) (J6n n) (J7r n) S=some u:=by
 obtain ⟨b,hb⟩:=K27 n hn S hS
 unfold J2k
 rw [hb,J6c]
 dsimp only
 rw [J6d (by simp)]
 unfold J3j Jw Jw_1
 rw [show J3k ((2:Int),([115,47]:List UInt8),([115,48]:List UInt8),1,3,())=some true from rfl,J6c,show (!true)=false from rfl,J6j,J70 (r:=(0,(0,0,[],()),((2:Int),([115,47]:List UInt8),([115,48]:List UInt8),1,3,()))) rfl]
 exact ⟨_,rfl⟩
noncomputable def gM:Nat→Ent:=fun _=>(Qm,1,0,())
section
variable {n : Nat} {p : Nat → Int} {f : Nat → Int}
theorem Jpg (hp:PwOk p) (h1:1≤n) (hn:n≤4) (hf:f 0=1) (T:Int) (hT:0≤T∧T≤1073741824):J5h (J6i p n) (J6k n) T 1 3 =
  some (0,1,1,(),(),J6k n,J6n n,J6i p n,stR [] [[]],BL n p f [[]],(),([hL n p f [[]] 0],J6i p n,T,false,()),(1,0,0,()),regF gM 0 1,(),[],([],()),(0,0,[],false,()),0,0,0,false,(),[]):=by
 have hr:Jhl 1 f:=by
  refine ⟨fun i hi=>?_,fun i hi=>by omega⟩
  obtain rfl:i=0:=by omega
  rw [hf]; omega
 have hl:J5c (hL n p f [[]] 0) (J6i p n) T=some (.inr (0,([hL n p f [[]] 0],J6i p n,T,false,()))):=K2y (r:=rR [[]]) (P:=fun _=>p) (m:=1) h1 hn (fun _=>hp) (by omega) hr hT (j:=0) (by omega)
 have e:J51 (hL n p f [[]] 0) (J6i p n) T 1 3=some (0,(),([hL n p f [[]] 0],J6i p n,T,false,()),(1,0,0,()),regF gM 0 1,(),[],([],()),(0,0,[],false,()),0,0,0,false,(),[]):=by
  unfold J51
  rw [hl]
  rfl
 unfold J5h
 rw [K5 p hp h1 hn,J6c]
 have hc:=K25 (f:=f) hp h1 hn (by rw [hf]; omega)
 rw [hf] at hc
 rw [hc,J6c]
 rw [show J19 1 () (J6k n) (J6n n) (J6i p n) (stR [] [[]]) (BL n p f [[]])=_ from K0u hn (by simp) (j:=0) (by simp) _,J6c]
 rw [show J51 (gL n p f [[]] 0).1 (gL n p f [[]] 0).2.2.2.1 T 1 3=_ from e]
 rfl
end
theorem begunG (ps:List Int) (hps:ps.length≤1000) (f:Nat→Int) (hf:f 0=1) (T:Int) (hT:0≤T∧T≤1073741824):∃ u,J3t ps T 1 3 =
  some (1,1,(),(),J6k (setN ps),J6n (setN ps),Jxu ps,stR [] [[]],BL (setN ps) (pw ps) f [[]],(),([hL (setN ps) (pw ps) f [[]] 0],Jxu ps,T,false,()),(1,0,0,()),regF gM 0 1,(),[],([],()),(0,0,[],false,()),0,0,0,false,(),[],u):=by
 obtain ⟨h1,hn⟩:=Jss ps
 obtain ⟨u,hu⟩:=K01 (setN ps) hn (Jxu ps) (Jmp _ _ hn) T
 have hw:=Jpg (f:=f) (K37 ps) h1 hn hf T hT
 unfold J3t
 rw [Jre ps (by omega),J6c]
 dsimp only
 rw [show Jxu ps=J6i (pw ps) (setN ps) from rfl] at hu ⊢
 rw [hw,J6c]
 dsimp only
 rw [J90 rfl,hu,J6c]
 exact ⟨u,rfl⟩
section
variable (n : Nat) (p : Nat → Int) (f : Nat → Int) (R : List (List Pr))
noncomputable def hdK (j:Nat):List Hdr:=Jea ((List.range j).map (hL n p f R))
noncomputable def cliG (T:Int) (j:Nat):Cli:=(hdK n p f R j,J6i p n,T,false,())
theorem Jg3 (j:Nat):(hdK n p f R j).length=min j 6:=by unfold hdK; rw [Jf3]; simp
theorem Jzz (l:List Pr) {j:Nat} (h:j≤R.length):hdK n p f (R++[l]) j=hdK n p f R j:=by
 unfold hdK
 congr 1
 refine List.map_congr_left fun i hi=>K2q n p f R l ?_
 have:=List.mem_range.1 hi; omega
theorem Jvi (l:List Pr) (T:Int) {j:Nat} (h:j≤R.length):cliG n p f (R++[l]) T j=cliG n p f R T j:=by unfold cliG; rw [Jzz n p f R l h]
theorem Jro (j:Nat):hdK n p f R (j+1)=cut6 (hdK n p f R j++[hL n p f R j]):=by
 unfold hdK
 rw [List.range_succ,List.map_append,List.map_singleton,Jki]
 unfold cut6
 rw [List.length_append,List.length_singleton]
theorem Jm0 {j:Nat} (h:1≤j) (x:List Val×Int×Bool×Unit):lastH (hdK n p f R j,x)=hL n p f R (j - 1):=by
 obtain ⟨i,rfl⟩:∃ i,j=i+1:=⟨j - 1,by omega⟩
 rw [Jro]
 by_cases c:1≤(hdK n p f R i).length
 ·rw [Jwu _ _ _ c]; rfl
 ·have:hdK n p f R i=[]:=List.eq_nil_of_length_eq_zero (by omega)
  rw [this]; rfl
theorem K1b {j:Nat} (h:1≤j) (T:Int):Knows (J6i p n) T (hL n p f R (j - 1)) (cliG n p f R T j):=
 ⟨by show 1≤(hdK n p f R j).length; rw [Jg3]; omega,by show (hdK n p f R j).length≤1000; rw [Jg3]; omega,Jm0 n p f R h _,rfl,rfl,rfl⟩
end
section
variable {n : Nat} {p : Nat → Int} {f : Nat → Int} {R : List (List Pr)}
theorem K4b (hp:PwOk p) (h1:1≤n) (hn:n≤4) (hR:R.length≤16) (hf:Jhl R.length f) {j:Nat} (hj:1≤j∧j < R.length) (T now:Int) (hnow:0≤now∧now≤1099511627776) (q1:¬ T < now - f (j - 1)) (q2:f j≤now) :
  J2b (gL n p f R j) now (cliG n p f R T j)=some (0,cliG n p f R T (j+1)):=by
 have hk:=K1b n p f R hj.1 T
 rw [show gL n p f R j=sgB n (rR R) (fun _=>p) f j (fun _=>true) from K2m _ _ _ _ _]
 rw [upd_eq _ _ _ (sgB_ok hn (fun _=>p) f (by omega) (K1k R j) _) (K0x (r:=rR R) (P:=fun _=>p) (m:=R.length) hn (fun _=>hp) hR hf (i:=j - 1) (by omega) hk) (by omega)]
 rw [K4c (P:=fun _=>p) (m:=R.length) h1 hn (fun _=>hp) hR hf (i:=j - 1) (by omega) hj.2 hk now (fun _=>true) q1 (by omega)]
 have hw:=K36 (p:=pB (fun _=>p) j) (pB_ok (fun _=>hp) _) _ (Ku h1)
 rw [Jlw,if_neg (by omega),if_neg (by omega)]
 rw [show (cliG n p f R T j).1=hdK n p f R j from rfl]
 rw [show hG n (rR R) (fun k=>J6i p n) f j=hL n p f R j from rfl,← Jro]
 rfl
theorem expG (hp:PwOk p) (hn:n≤4) (hR:R.length≤16) (hf:Jhl R.length f) {j:Nat} (hj:1≤j∧j≤R.length) (T now:Int) (hnow:0≤now∧now≤1099511627776) :
  J0l now (cliG n p f R T j)=some (decide (T < now - f (j - 1))):=by
 rw [Jk9 _ _ (K0x (r:=rR R) (P:=fun _=>p) (m:=R.length) hn (fun _=>hp) hR hf (i:=j - 1) (by omega) (K1b n p f R hj.1 T)) (by omega)]
 rw [show lastH (cliG n p f R T j)=hL n p f R (j - 1) from Jm0 n p f R hj.1 _,show (hL n p f R (j - 1)).2.1=f (j - 1) from hG_t _ _ _ _ _]
 rfl
theorem latG {j:Nat} (hj:1≤j) (x:Int×Bool×Unit) (v:List Val):J1l x (hdK n p f R j) v=some (hL n p f R (j - 1)):=by
 have hl:=Jg3 n p f R j
 have:=Jm0 n p f R hj (v,x)
 unfold J1l
 rw [J6h (by omega) (by omega),J6d (by omega),show (((hdK n p f R j).length:Int) - 1).toNat=(hdK n p f R j).length - 1 from by omega]
 exact congrArg some this
theorem Jmt (x0:Int) (x1:List Hdr) (x2:Int) (x3:Int) (x4:(List Hdr)×(List Val)×Int×Bool×Unit) (x5:List UInt8):Jt_1_step x0 x1 x2 x3 x4 x5 =
  (fork (decide (x3 < x2)) (need (0≤x3∧x3 < (List.length x1:Int)) (fork (decide ((List.getD x1 (Int.toNat x3) zHdr).1=x0)) (some (.inr (.inl (true,x4,(List.getD x1 (Int.toNat x3) zHdr).2.2.1)))) (some (.inl (w64 (x3+(1:Int))))))) (some (.inr (.inr (x4,x5)))):Option ((Int)⊕((Bool×((List Hdr)×(List Val)×Int×Bool×Unit)×List UInt8)⊕(((List Hdr)×(List Val)×Int×Bool×Unit)×List UInt8)))):=rfl
theorem K3l (x:Int) (l:List Hdr) (y:List Val×Int×Bool×Unit) (hl:l.length≤1000) {k:Nat} (hk:k < l.length) (hx:(l.getD k zHdr).1=x) (hne:∀ i,i < k→(l.getD i zHdr).1≠x) :
  Jt x (l,y)=some ((l.getD k zHdr).2.2.1,true,(l,y)):=by
 have m:Jt_1 x l (l.length:Int) 0 (l,y) (List.replicate 32 0)=some (scan (fun i=>if (l.getD i zHdr).1=x then some (.inl (true,(l,y),(l.getD i zHdr).2.2.1)) else none) (.inr ((l,y),List.replicate 32 0)) 0 l.length):=by
  unfold Jt_1
  refine J93 (step:=fun (s:Int)=>Jt_1_step x l (l.length:Int) s (l,y) (List.replicate 32 0)) (fun i=>(i:Int)) _ _ l.length (fun i hi q=>?_) (fun i r hi q=>?_) ?_ l.length 0 (by omega)
  ·rw [Jmt,J6g (by omega),J6d (by omega),Int.toNat_natCast,J6h (by omega) (by omega)]
   by_cases e:(l.getD i zHdr).1=x
   ·rw [if_pos e] at q; cases q
   ·rw [J6e e]; rfl
  ·rw [Jmt,J6g (by omega),J6d (by omega),Int.toNat_natCast]
   by_cases e:(l.getD i zHdr).1=x
   ·rw [if_pos e] at q; injection q with q; subst q; rw [J6g e]
   ·rw [if_neg e] at q; cases q
  ·rw [Jmt,J6e (by omega)]
 unfold Jt
 dsimp only
 rw [m,J6c,Jad (bad:=fun i=>if (l.getD i zHdr).1=x then some (Sum.inl (true,(l,y),(l.getD i zHdr).2.2.1)) else none) l.length 0 k (Nat.zero_le _) (by omega) (fun j _ hj=>if_neg (hne j hj)) (if_pos hx)]
theorem rootG {j:Nat} (T:Int) {h:Nat} (hh:j - 6≤h∧h < j):Jt ((h:Int)+1) (cliG n p f R T j)=some (rR R h,true,cliG n p f R T j):=by
 have hl:=Jg3 n p f R j
 have hg:∀ i,i < min j 6→(hdK n p f R j).getD i zHdr=hL n p f R (j - min j 6+i):=fun i hi=>by
  unfold hdK Jea
  rw [List.getD_eq_getElem?_getD,List.getElem?_drop,List.length_map,List.length_range,List.getElem?_map,List.getElem?_range (by omega)]
  show hL n p f R (j - 6+i)=_
  congr 1; omega
 have hone:∀ i,(hL n p f R i).1=(i:Int)+1:=fun i=>hG_1 _ _ _ _ _
 have:=K3l ((h:Int)+1) (hdK n p f R j) (J6i p n,T,false,()) (by omega) (k:=h - (j - min j 6)) (by omega) (by rw [hg _ (by omega),hone]; omega) (fun i hi=>by rw [hg _ (by omega),hone]; omega)
 rw [hg _ (by omega)] at this
 rw [show j - min j 6+(h - (j - min j 6))=h from by omega] at this
 unfold cliG
 rw [this]
 rw [show (hL n p f R h).2.2.1=rR R h from K2p _ _ _ _ _]
end
abbrev Ce:=CalT×Int×Unit
def zCe:Ce:=(zCal,0,())
def Jb9 (e:List (Int×Ce)) (id:Int):Int:=((J6r ib id e).getD zCe).1.2.1
theorem clastG (id:Int) (e:List (Int×Ce)):J3x id () e=some (Jb9 e id):=rfl
theorem putG (c:CalT) (b:Int) (e:List (Int×Ce)) (h1:1≤c.2.1) (hb:0≤b) (hl:Jb9 e c.1 < c.2.1) (hc:Jdm c) (hf:(J6r ib c.1 e).isSome=true∨e.length < 6) :
  J3h c b () e=some (0,J6x ib c.1 (c,b,()) e):=by
 have hcc:J2m c=some c:=by
  unfold J2m Jk
  unfold Jdm at hc
  rw [J6d (by omega)]; rfl
 unfold Jb9 at hl
 unfold J3h
 rw [hcc]
 rw [J6e (by omega),J6e (by omega)]
 cases hs:(J6r ib c.1 e).isSome with
 | true=>
  rw [J7g,J6e (by
   have:¬ c.2.1≤((J6r ib c.1 e).getD zCe).1.2.1:=by omega
   exact this)]
  rfl
 | false=>
  have hf:e.length < 6:=by rcases hf with h | h; (rw [hs] at h; cases h); exact h
  rw [J6j,show (!false)=true from rfl,J7g,J6e (by omega)]
  rfl
noncomputable def J7f (id:Int) (q:Qry) (h:Int) (l:List Pr):CalT:=(id,h,(ansS id q h l).2.2.1,())
theorem openG {g:Nat→Ent} {m j:Nat} (hj:j < m) (r:Int×Int×Int×Unit):J11 ((j:Int)+1) r (regF g 0 m)=some (decide (0 < (g j).2.2.1)):=by
 unfold J11
 rw [show J6r (Ty.beq (.int .i64)) ((j:Int)+1) (regF g 0 m)=some (g j) from Jg9 g j m 0 (Nat.zero_le _) (by omega)]
 rfl
theorem qgetG {g:Nat→Ent} {m j:Nat} (hj:j < m) (r:Int×Int×Int×Unit):J15 ((j:Int)+1) r (regF g 0 m)=some ((g j).1,true):=by
 unfold J15
 rw [show J6r (Ty.beq (.int .i64)) ((j:Int)+1) (regF g 0 m)=some (g j) from Jg9 g j m 0 (Nat.zero_le _) (by omega)]
 rfl
theorem shutG {g:Nat→Ent} {m j:Nat} (hj:j < m) (hu:0 < (g j).2.2.1) (r:Int×Int×Int×Unit):J2u ((j:Int)+1) r (regF g 0 m)=some (true,regF (updG g j ((g j).1,(g j).2.1,0,())) 0 m):=by
 unfold J2u
 rw [show J6r (Ty.beq (.int .i64)) ((j:Int)+1) (regF g 0 m)=some (g j) from Jg9 g j m 0 (Nat.zero_le _) (by omega)]
 simp only [Option.isSome_some,Option.getD_some,Bool.not_true]
 rw [J6j,J6e (by omega)]
 rw [show ∀ y:Ent,J6x (Ty.beq (.int .i64)) ((j:Int)+1) y (regF g 0 m)=regF (updG g j y) 0 m from fun y=>Jj9 g j y m 0 (Nat.zero_le _) (by omega)]
theorem K02 {g:Nat→Ent} {m j:Nat} (hj:j < m) (hu:0 < (g j).2.2.1) (hq:(g j).1.1=1∨(g j).1.1=2) {l:List Pr} (hrow:RowG l) {h:Int} (hh:1≤h∧h≤16) {cli:Cli} (hfz:cli.2.2.2.1=false) {now:Int} (hexp:J0l now cli=some false) (hroot:Jt h cli=some (J9m l,true,cli))
  {e:List (Int×Ce)} (hlast:Jb9 e ((j:Int)+1) < h) (hf:(J6r ib ((j:Int)+1) e).isSome=true∨e.length < 6) {cl:List CalT} (hcl:cl.length < 8) (hco:∀ c ∈ cl,Jdm c) {r:Int×Int×Int×Unit} (hb:0≤r.2.1) (mi:Int×Int×List Pr×Bool×Unit) (x10 x11 x12:Int) (x13:Bool) (x15:List (List UInt8×Int)) :
  J18 (ansS ((j:Int)+1) (g j).1 h l) now () cli r (regF g 0 m) () e (cl,()) mi x10 x11 x12 x13 () x15 =
   some (0,cli,regF (updG g j ((g j).1,(g j).2.1,0,())) 0 m,J6x ib ((j:Int)+1) (J7f ((j:Int)+1) (g j).1 h l,r.2.1,()) e,(),cl++[J7f ((j:Int)+1) (g j).1 h l]):=by
 obtain ⟨a1,a2⟩:=Jtb hrow hq ((j:Int)+1) h hh
 obtain ⟨o1,o2,o3,o4,o5⟩:=Jhp ((j:Int)+1) (g j).1 h l hrow
 have hC:Jdm (J7f ((j:Int)+1) (g j).1 h l):=by unfold Jdm J7f; dsimp only; omega
 unfold J18
 rw [a1,J6c,show (!true)=false from rfl,J6j,o4,o5,openG hj,J6c,decide_eq_true hu,show (!true)=false from rfl,J6j]
 rw [show J2t cli=some false from by unfold J2t; rw [hfz],J6c,J6j,hexp,J6c,J6j,clastG,J6c,J6e (by omega),hroot,J6c]
 dsimp only
 rw [show (!true)=false from rfl,J6j,roomG cl (by omega),J6c,J6e (by omega),qgetG hj,J6c]
 dsimp only
 rw [a2,J6c,show (!decide ((0:Int)=0))=false from rfl,J6j,show J22 r (regF g 0 m)=some r.2.1 from rfl,J6c]
 rw [show ((((j:Int)+1),h,(ansS ((j:Int)+1) (g j).1 h l).2.2.1,()):CalT)=J7f ((j:Int)+1) (g j).1 h l from rfl]
 rw [putG (J7f ((j:Int)+1) (g j).1 h l) r.2.1 e hh.1 hb hlast hC hf,J6c]
 dsimp only
 rw [show (!decide ((0:Int)=0))=false from rfl,J6j,pushG _ cl hcl hC hco,J6c,shutG hj hu,J6c]
 rfl
theorem K1x {R:List (List Pr)} {now0:List Pr} {B:List Block} (hn0:RowB now0) (hR:∀ l ∈ R,RowB l) (hlen:R.length≤16) {g:Nat→Ent} {m j:Nat} (hj:j < m) (hu:0 < (g j).2.2.1) (hq:(g j).1.1=1∨(g j).1.1=2) {i:Nat} (hi:R.length - 6≤i∧i < R.length) (hrow:RowG (R.getD i [])) {cli:Cli} (hfz:cli.2.2.2.1=false) {now:Int} (hexp:J0l now cli=some false) (hroot:Jt ((i:Int)+1) cli=some (J9m (R.getD i []),true,cli))
  {e:List (Int×Ce)} (hlast:Jb9 e ((j:Int)+1) < (i:Int)+1) (hf:(J6r ib ((j:Int)+1) e).isSome=true∨e.length < 6) {cl:List CalT} (hcl:cl.length < 8) (hco:∀ c ∈ cl,Jdm c) {r:Int×Int×Int×Unit} (hb:0≤r.2.1) (q:Int) (D:List (List UInt8)) (K:List (List (List UInt8))) (V:List Val) (mi:Int×Int×List Pr×Bool×Unit) (x10 x11 x12:Int) (x13:Bool) (x15:List (List UInt8×Int)) (ac:List CalT) (hac:ac.length≤1000) :
  J17 ((j:Int)+1) ((i:Int)+1) now q () () D K V (stR now0 R) B () cli r (regF g 0 m) () e (cl,()) mi x10 x11 x12 x13 () x15 ac =
   some (0,cli,regF (updG g j ((g j).1,(g j).2.1,0,())) 0 m,J6x ib ((j:Int)+1) (J7f ((j:Int)+1) (g j).1 ((i:Int)+1) (R.getD i []),r.2.1,()) e,(cl++[J7f ((j:Int)+1) (g j).1 ((i:Int)+1) (R.getD i [])],()),ac++[J7f ((j:Int)+1) (g j).1 ((i:Int)+1) (R.getD i [])]):=by
 obtain ⟨o1,o2,o3,o4,o5⟩:=Jhp ((j:Int)+1) (g j).1 ((i:Int)+1) (R.getD i []) hrow
 have hAt:J2y ((i:Int)+1) () D K V (stR now0 R) B=some (R.getD i [],true):=by
  unfold J2y
  rw [K46 _ (Jkz hn0 hR hlen),J6c,stR_at,if_pos (by omega),show ((i:Int)+1 - 1).toNat=i from by omega]
 unfold J17
 rw [show J0c () cli r (regF g 0 m) () e (cl,()) mi x10 x11 x12 x13 () x15=some () from rfl,J6c,qgetG hj,J6c,hAt,J6c]
 dsimp only
 rw [show (!true)=false from rfl,J6j,J6j,K1w hrow hq,J6c]
 unfold J3g
 rw [K02 hj hu hq hrow (by omega) hfz hexp hroot hlast hf hcl hco hb,J6c]
 dsimp only
 rw [J6g rfl]
 unfold Jk
 rw [J6d (by omega),J6c,J6d (by simp only [List.length_singleton]; omega),o4,o5]
 rfl
def recB (t r:Int):List UInt8:=putS [t,r]
def recP (n:List UInt8) (t r:Int):Pr:=([115,47]++n,recB t r,())
def Amt (n:Int):Prop:=0≤n∧n≤1073741824
theorem Jd3 {n:Int} (h:Amt n):J2i n=some true:=by
 unfold J2i
 rw [J6g h.1,decide_eq_true h.2]
theorem Jj8 {t r:Int} (ht:Amt t) (hr:Amt r):J3q t r=some (recB t r):=by
 unfold J3q
 rw [Jd3 ht,J6c,Bool.not_true,J6j,Jd3 hr,J6c,Bool.not_true,J6j,put_eq _ (by simp)]
 rfl
theorem Jr4 (l:List UInt8) (h:l.length≤1000):J5o l=some (l,false,()):=by
 unfold J5o
 rw [J6d (by rw [List.length_nil]; omega)]; rfl
theorem Jff (t r:Int):(recB t r).length≤14:=by have:=Jml [t,r]; unfold recB; simp only [List.length_cons,List.length_nil] at this; omega
theorem Jmm {t r:Int} (ht:Amt t) (hr:Amt r):J3b (recB t r)=some (t,r,true):=by
 have e:recB t r=oneS t++(oneS r++[]):=by unfold recB putS; simp
 have hl:=Jff t r
 unfold J3b
 rw [Jr4 _ (by omega),J6c,e,number_eq,Jx8 t ht.1 (by have:=ht.2; omega),J6c]
 dsimp only
 rw [number_eq,Jx8 r hr.1 (by have:=hr.2; omega),J6c,doneS,J6c]
 dsimp only
 rw [show (!(!false && decide (([]:List UInt8)=[])))=false from rfl,J6j,Jd3 ht,J6c,Bool.not_true,J6j,Jd3 hr,J6c,Bool.not_true,J6j]
theorem K00:J3b []=some (0,0,false):=by
 unfold J3b
 rw [show J5o []=some ([],false,()) from rfl,J6c,number_eq,J6c,number_eq,J6c,doneS,J6c]
 rfl
def RecS:List (List UInt8×Int×Int)→Int
 | []=>0
 | x::r=>x.2.1+x.2.2+RecS r
def rowR (l:List (List UInt8×Int×Int)):List Pr:=l.map fun x=>recP x.1 x.2.1 x.2.2
theorem is_key (n:List UInt8):J4a ([115,47]++n)=some true:=by
 unfold J4a J4m J41
 have hl:(([115,47]++n).length:Int)=(n.length:Int)+2:=by simp; omega
 have h2:(([115,47]:List UInt8).length:Int)=2:=rfl
 rw [hl,h2,J6g (by omega),J6d (by omega),show cutL ([115,47]++n) 0 2=[115,47] from rfl]
 rfl
theorem K17 (n:List UInt8) (t r:Int):J4a (recP n t r).1=some true:=is_key n
theorem Jj7 (x:List UInt8×Int×Int) (r:List (List UInt8×Int×Int)):RecS (x::r)=x.2.1+x.2.2+RecS r:=rfl
theorem Jc0:∀ {l:List (List UInt8×Int×Int)},(∀ x ∈ l,Amt x.2.1∧Amt x.2.2)→0≤RecS l
 | [],_=>Int.le_refl _
 | x::r,h=>by
  have h1:=h x (List.mem_cons_self ..); have h2:=Jc0 (l:=r) fun y hy=>h y (List.mem_cons_of_mem _ hy)
  have:=h1.1.1; have:=h1.2.1; rw [Jj7]; omega
theorem Jnf (l:List Pr) (n:Nat) (hn:l.length=n) (hn2:n≤1000):∀ (m:List (List UInt8×Int×Int)) (acc:Int) (i:Nat),i+m.length=n→l.drop i=rowR m→(∀ x ∈ m,Amt x.2.1∧Amt x.2.2)→0≤acc→acc+RecS m≤1073741824→
  J00_1 acc l (n:Int) (i:Int)=some (acc+RecS m)
 | [],acc,i,hi,hd,hm,h0,h1=>by
  unfold J00_1
  refine J70 ?_
  show J00_1_step acc l (n:Int) (i:Int)=_
  unfold J00_1_step
  rw [J6e (by simp at hi; omega)]
  rw [show RecS []=0 from rfl,Int.add_zero]
 | x::m,acc,i,hi,hd,hm,h0,h1=>by
  simp only [List.length_cons] at hi
  have hx:=hm x (List.mem_cons_self ..)
  have hs:=Jc0 (l:=m) fun y hy=>hm y (List.mem_cons_of_mem _ hy)
  have a1:=hx.1.1; have a2:=hx.2.1; have a3:=hx.1.2; have a4:=hx.2.2
  rw [Jj7] at h1
  have hg:l.getD i zPr=recP x.1 x.2.1 x.2.2:=by
   have:(l.drop i)[0]?=some (recP x.1 x.2.1 x.2.2):=by rw [hd]; rfl
   rw [List.getElem?_drop,Nat.add_zero] at this
   rw [List.getD_eq_getElem?_getD,this]; rfl
  have hd2:l.drop (i+1)=rowR m:=by
   have:(l.drop i).drop 1=rowR m:=by rw [hd]; rfl
   rw [List.drop_drop] at this; exact this
  have ih:=Jnf l n hn hn2 m (acc+(x.2.1+x.2.2)) (i+1) (by omega) hd2 (fun y hy=>hm y (List.mem_cons_of_mem _ hy)) (by omega) (by omega)
  unfold J00_1 at ih ⊢
  rw [J76 (s':=(acc+(x.2.1+x.2.2),((i+1:Nat):Int))) (by
   show J00_1_step acc l (n:Int) (i:Int)=_
   unfold J00_1_step
   rw [J6g (by omega),J6d (by omega),Int.toNat_natCast,show (([]:List UInt8),([]:List UInt8),())=zPr from rfl,hg,K17,J6c,Bool.not_true,J6j,show (recP x.1 x.2.1 x.2.2).2.1=recB x.2.1 x.2.2 from rfl,Jmm hx.1 hx.2,J6c]
   dsimp only
   rw [Bool.not_true,J6j,J6h (n:=x.2.1+x.2.2) (by omega) (by omega),J6h (n:=acc+(x.2.1+x.2.2)) (by omega) (by omega),J6h (n:=(i:Int)+1) (by omega) (by omega)]
   rfl),ih,Jj7]
  congr 1; omega
theorem Jan (m:List (List UInt8×Int×Int)) (hl:m.length≤1000) (hm:∀ x ∈ m,Amt x.2.1∧Amt x.2.2) (h1:RecS m≤1073741824):J00 (rowR m)=some (RecS m,true):=by
 have hlen:(rowR m).length=m.length:=List.length_map _
 have:=Jnf (rowR m) m.length hlen hl m 0 0 (by omega) rfl hm (Int.le_refl _) (by omega)
 unfold J00
 rw [hlen,show (0:Int)=((0:Nat):Int) from rfl] at *
 rw [this,J6c,Int.natCast_zero,Int.zero_add,Jd3 ⟨Jc0 hm,h1⟩,J6c,Bool.not_true,J6j]
theorem Jq9 (n:List UInt8) (h:n.length≤1000):J0r n=some ([115,47]++n):=by
 unfold J0r
 rw [J6d (by simp; omega)]
theorem Jn4 (l:List Pr) (hl:RowB l) (n:List UInt8) (hn:n≠[]∧n.length≤14) (hat:isAt l ([115,47]++n)=false) (hlen:l.length < 30) (x:Int) (hx:Amt x) (s:Int) (hb:J00 (putP l (recP n x 0))=some (s,true)) :
  J2l l n x=some (putP l (recP n x 0),0):=by
 have hr:=hl.1
 have z:Amt 0:=⟨by omega,by omega⟩
 have hx1:=hx.1; have hx2:=hx.2
 have hm:mayP (recP n x 0)=true:=by
  have:=Jff x 0
  unfold mayP recP
  simp only [Bool.and_eq_true,decide_eq_true_eq,Bool.not_eq_true',decide_eq_false_iff_not]
  refine ⟨by simp,by simp; omega,by omega⟩
 have hset:setP l (recP n x 0)=(putP l (recP n x 0),true):=by
  unfold setP; rw [hm,decide_eq_true hlen]; simp
 unfold J2l J1y
 rw [Jq9 n (by omega),J6c,J6e hn.1,J6e (by simp; omega),Jd3 hx,J6c,Bool.not_true,J6j,Jcp l hr (by have:=hl.2.1; omega),J6c,hat,if_neg (by simp),K00,J6c]
 dsimp only
 unfold J1y_1
 rw [J6j,Bool.not_false,J7g,Bool.not_true,J6j,J6c]
 dsimp only
 unfold J40
 rw [J6c,Int.zero_add,J6h (by omega) (by omega)]
 dsimp only
 rw [J90 rfl,Jj8 hx z,J6c,show (([115,47]++n,recB x 0,()):Pr)=recP n x 0 from rfl,Jqa l hr (by have:=hl.2.1; omega),J6c,hset]
 dsimp only
 rw [Bool.not_true,J6j,hb,J6c]
 rfl
abbrev Um:=List (List UInt8×Int)
def sumM:Um→Int
 | []=>0
 | p::r=>p.2+sumM r
def NonM:Um→Prop
 | []=>True
 | p::r=>0≤p.2∧NonM r
structure Jl1 (s p a:Int) (m:Um):Prop where
 s0:0≤s
 p0:0≤p
 top:s+p≤1073741824
 a0:0≤a
 a1:a≤1073741824
 sum:sumM m=a
 non:NonM m
theorem Jxn {s p a:Int} {m:Um} (h:Jl1 s p a m) (b:Bool) (u:Unit):J0o s p a b u m=some (s+p):=by
 have:=h.s0; have:=h.p0; have:=h.top
 unfold J0o
 rw [J6h (by omega) (by omega)]
theorem Kg {s p a:Int} {m:Um} (h:Jl1 s p a m) (t:Int) (h0:0≤t) (h1:t≤1073741824 - p) (b:Bool) (u:Unit) :
  J3d t s p a b u m=some (0,t,false)∧Jl1 t p a m:=by
 have s0:=h.s0; have p0:=h.p0; have tp:=h.top
 unfold J3d
 rw [J6e (by omega),J6h (by omega) (by omega),J6e (by omega)]
 exact ⟨rfl,h0,h.p0,by omega,h.a0,h.a1,h.sum,h.non⟩
abbrev SRec:=List UInt8×Int×Int
abbrev Mir:=Int×Int×List Pr×Bool×Unit
theorem Jc3 (m:List SRec):(rowR m).length=m.length:=List.length_map _
theorem K3q (m:List SRec) {i:Nat} (hi:i < m.length):∃ x ∈ m,(rowR m).getD i zPr=recP x.1 x.2.1 x.2.2:=by
 have hm:(rowR m).getD i zPr ∈ rowR m:=J7e (by rw [Jc3]; exact hi)
 obtain ⟨x,hx,e⟩:=List.mem_map.1 hm
 exact ⟨x,hx,e.symm⟩
theorem Jld (m:List SRec) (hl:m.length≤1000):J1a (rowR m)=some false:=by
 have hlen:=Jc3 m
 have e:Jh_1 (rowR m) ((rowR m).length:Int) 0=some (.inr ()):=by
  unfold Jh_1
  refine J6o (step:=fun (s:Int)=>Jh_1_step (rowR m) ((rowR m).length:Int) s) (fun i (_:Unit)=>(i:Int)) (fun _ _=>()) (fun _=>.inr ()) m.length (fun _ _=>True) (fun i w hi _=>⟨?_,trivial⟩) (fun w _=>?_) m.length 0 () (by omega) trivial
  ·show Jh_1_step (rowR m) ((rowR m).length:Int) (i:Int)=_
   unfold Jh_1_step J44
   obtain ⟨x,hx,ex⟩:=K3q m hi
   rw [J6g (by omega),J6d (by omega),Int.toNat_natCast,show (([]:List UInt8),([]:List UInt8),())=zPr from rfl,ex,K17,J6c]
   rw [show (!true)=false from rfl,J6c,J6j,J6h (by omega) (by omega)]
   rfl
  ·show Jh_1_step (rowR m) ((rowR m).length:Int) (m.length:Int)=_
   unfold Jh_1_step
   rw [J6e (by omega)]
 unfold J1a Jh
 rw [e]
 rfl
theorem takeG (m:List SRec) (hl:m.length≤1000) (hm:∀ x ∈ m,Amt x.2.1∧Amt x.2.2) (h1:RecS m≤1073741824) (hk:J1d (rowR m)=some true) (h:Int) (mi:Mir) (hh:1≤h∧mi.1≤h) :
  J30 (1,h,rowR m,()) mi=some (0,h,RecS m,(false,()),rowR m):=by
 have hlen:=Jc3 m
 unfold J30
 dsimp only
 rw [hk,J6c,show (!true)=false from rfl,J6j,Jld m hl,J6c,J6j,J6e (by omega),Jan m hl hm h1,J6c]
 dsimp only
 rw [show (!true)=false from rfl,J6j]
 unfold Jk
 rw [J6d (by omega),J6c]
abbrev Mst3:=Mir×Int×Bool
noncomputable def Jl9 (c:CalT) (s:Mst3) (y z:Int) (us:List (List UInt8×Int)):Option (Mir×Int×Bool):=
 J1k c () ([],[],0,false,()) (0,0,0,()) [] () [] ([],()) s.1 s.2.1 y z s.2.2 () us
theorem Jnk (c:CalT) (s:Mst3) (y z:Int) (us:List (List UInt8×Int)) (cli:Cli) (r:Int×Int×Int×Unit) (reg:List (Int×Ent)) (ca:List (Int×Ce)) (cq:List CalT×Unit):J1k c () cli r reg () ca cq s.1 s.2.1 y z s.2.2 () us=Jl9 c s y z us:=rfl
theorem Jfy (m:List SRec) (hl:m.length≤1000) (hm:∀ x ∈ m,Amt x.2.1∧Amt x.2.2) (hk:J1d (rowR m)=some true) (h:Int) (s:Mst3) (hh:1≤h∧s.1.1≤h) {y z:Int} {us:List (List UInt8×Int)} (hL:Jl1 s.2.1 y z us) (hy:RecS m≤1073741824 - y) :
  Jl9 (1,h,rowR m,()) s y z us=some ((h,RecS m,rowR m,false,()),RecS m,false)∧Jl1 (RecS m) y z us:=by
 have hp:=hL.p0
 obtain ⟨e,o⟩:=Kg hL (RecS m) (Jc0 hm) hy s.2.2 ()
 refine ⟨?_,o⟩
 unfold Jl9 J1k
 rw [show (!decide (((1:Int),h,rowR m,()).1=1))=false from rfl,J6j,takeG m hl hm (by omega) hk h s.1 hh,J6c]
 dsimp only
 rw [J6g rfl,show J35 h (RecS m) (false,()) (rowR m)=some () from rfl,J6c,e,J6c]
 rfl
def Jhk (y z:Int) (us:List (List UInt8×Int)):List CalT→Mst3→Mst3→Prop
 | [],s,t=>s=t
 | c::l,s,t=>∃ u,Jl9 c s y z us=some u∧Jhk y z us l u t
theorem Jjz (cli:Cli) (r:Int×Int×Int×Unit) (reg:List (Int×Ent)) (ca:List (Int×Ce)) (y z:Int) (us:List (List UInt8×Int)) :
  ∀ (l:List CalT) (s t:Mst3) (c:CalT),l.length≤1000→Jhk y z us (c::l) s t→
   Jf_1 true () cli r reg () ca (l,()) s.1 s.2.1 y z s.2.2 () us c=some ((),cli,r,reg,(),ca,([],()),t.1,t.2.1,y,z,t.2.2,(),us)
 | [],s,t,c,hl,h=>by
  obtain ⟨u,h1,h2⟩:=h
  have h2:u=t:=h2
  subst h2
  unfold Jf_1
  rw [J76 (s':=(false,([],()),u.1,u.2.1,u.2.2,zCal)) (by
   show Jf_1_step true () cli r reg () ca ([],()) s.1 s.2.1 y z s.2.2 () us c=_
   unfold Jf_1_step
   rw [J7g,Jnk,h1,J6c,popG0]
   rfl)]
  exact J70 rfl
 | d::l,s,t,c,hl,h=>by
  obtain ⟨u,h1,h2⟩:=h
  have ih:=Jjz cli r reg ca y z us l u t d (by rw [List.length_cons] at hl; omega) h2
  unfold Jf_1 at ih ⊢
  rw [J76 (s':=(true,(l,()),u.1,u.2.1,u.2.2,d)) (by
   show Jf_1_step true () cli r reg () ca (d::l,()) s.1 s.2.1 y z s.2.2 () us c=_
   unfold Jf_1_step
   rw [J7g,Jnk,h1,J6c,popG d l (by rw [List.length_cons] at hl; omega)]
   rfl)]
  exact ih
theorem Jzd (cli:Cli) {g:Nat→Ent} {m:Nat} (hm:m≤12) (hg:∀ j,Jn8 (g j)) (a b l:Int) (hb:0≤b∧b < 100000) (hl:0≤l∧l≤100000) (ca:List (Int×Ce)) (cl:List CalT) (hcl:cl.length≤100) (y z:Int) (us:List (List UInt8×Int)) (s t:Mst3) (h:Jhk y z us cl s t) :
  Jf () cli (a,b,l,()) (regF g 0 m) () ca (cl,()) s.1 s.2.1 y z s.2.2 () us=some ((),cli,(a,b+1,l+(J8x (fun j=>J7q (b+1) (g j)) m).length,()),regF (fun j=>askG (b+1) (J9t (b+1) (g j))) 0 m,(),ca,([],()),t.1,t.2.1,y,z,t.2.2,(),us,J8x (fun j=>J7q (b+1) (g j)) m,J8x (fun j=>Jb8 (b+1) (J9t (b+1) (g j))) m):=by
 unfold Jf
 cases cl with
 | nil=>
  cases h
  rw [popG0,J6c]
  dsimp only
  have e:Jf_1 false () cli (a,b,l,()) (regF g 0 m) () ca ([],()) s.1 s.2.1 y z s.2.2 () us zCal=some ((),cli,(a,b,l,()),regF g 0 m,(),ca,([],()),s.1,s.2.1,y,z,s.2.2,(),us):=by
   unfold Jf_1
   exact J70 rfl
  rw [e,J6c]
  dsimp only
  rw [Jyn m hm g hg a b l hb hl,J6c]
 | cons c cl=>
  rw [popG c cl (by rw [List.length_cons] at hcl; omega),J6c]
  dsimp only
  rw [Jjz cli _ _ ca y z us cl s t c (by rw [List.length_cons] at hcl; omega) h,J6c]
  dsimp only
  rw [Jyn m hm g hg a b l hb hl,J6c]
abbrev TxT:=Int×List UInt8×List UInt8×Int×Int×Unit
abbrev zTx:TxT:=(0,[],[],0,0,())
abbrev zQy:Qry:=(0,[],[],0,0,())
abbrev WRes:=Int×Int×List Int×List Int×CalT×Unit
abbrev zR (a b:Int) (k l:List Int):WRes:=(a,b,k,l,(0,0,[],()),())
theorem K2d (now q:Int) (D:List (List UInt8)) (K:List (List (List UInt8))) (V:List Val) (s:Stt) (B:List Block) (c:Cli) (r:Int×Int×Int×Unit) (e:List (Int×Ent)) (ca:List (Int×Ce)) (cq:List CalT×Unit) (mi:Mir) (x y z:Int) (hb:Bool) (us:List (List UInt8×Int)) (ac:List CalT) (t:TxT) (er:Int) (s':Stt) (h:J0b t () D K V s B=some (er,s')) :
  Jg (1,0,0,[],t,zQy,[],()) now q () () D K V s B () c r e () ca cq mi x y z hb () us ac=some (zR er 0 [] [],now,q,(),(),D,K,V,s',(),c,r,e,(),ca,cq,mi,x,y,z,hb,(),us,B,ac):=by
 unfold Jg
 rw [J6g (show (1:Int)=1 from rfl)]
 show andThen (J0b t () D K V s B) _=_
 rw [h]
 try rfl
theorem K10 (now q:Int) (D:List (List UInt8)) (K:List (List (List UInt8))) (V:List Val) (s:Stt) (B:List Block) (c:Cli) (r:Int×Int×Int×Unit) (e:List (Int×Ent)) (ca:List (Int×Ce)) (cq:List CalT×Unit) (mi:Mir) (x y z:Int) (hb:Bool) (us:List (List UInt8×Int)) (t:TxT) (er:Int) (s':Stt) (h:J0b t () D K V s B=some (er,s')) :
  J1s (1,0,0,[],t,zQy,[],()) now q () () D K V s B () c r e () ca cq mi x y z hb () us=some (zR er 0 [] [],now,q,(),(),D,K,V,s',(),c,r,e,(),ca,cq,mi,x,y,z,hb,(),us,B,[]):=by
 unfold J1s
 rw [J6g (show (1:Int)=1 from rfl)]
 show andThen (J0b t () D K V s B) _=_
 rw [h]
 rfl
theorem Jvv (now q:Int) (D:List (List UInt8)) (K:List (List (List UInt8))) (V:List Val) (s:Stt) (B:List Block) (c:Cli) (r:Int×Int×Int×Unit) (e:List (Int×Ent)) (ca:List (Int×Ce)) (cq:List CalT×Unit) (mi:Mir) (x y z:Int) (hb:Bool) (us:List (List UInt8×Int)) (ac:List CalT) (t k:Int) (hk:k≠0) (s':Stt) (B' X:List Block) (h:Jd t () D K V s B=some (k,(),D,K,V,s',X,B')) :
  Jg (2,t,0,[],zTx,zQy,[],()) now q () () D K V s B () c r e () ca cq mi x y z hb () us ac=some (zR 0 k [] [],now,q,(),(),D,K,V,s',(),c,r,e,(),ca,cq,mi,x,y,z,hb,(),us,B',ac):=by
 unfold Jg
 rw [J6e (show ¬ (2:Int)=1 by decide),J6g (show (2:Int)=2 from rfl)]
 show andThen (Jd t () D K V s B) _=_
 rw [h,J6c,J6e hk]
 try rfl
theorem Jzg (now q:Int) (D:List (List UInt8)) (K:List (List (List UInt8))) (V:List Val) (s:Stt) (B:List Block) (c:Cli) (r:Int×Int×Int×Unit) (e:List (Int×Ent)) (ca:List (Int×Ce)) (cq:List CalT×Unit) (mi:Mir) (x y z:Int) (hb:Bool) (us:List (List UInt8×Int)) (ac:List CalT) (t:Int) (h1:now≤t) (h2:t≤1073741824) :
  Jg (3,t,0,[],zTx,zQy,[],()) now q () () D K V s B () c r e () ca cq mi x y z hb () us ac=some (zR 0 0 [] [],t,q,(),(),D,K,V,s,(),c,r,e,(),ca,cq,mi,x,y,z,hb,(),us,B,ac):=by
 unfold Jg
 rw [J6e (show ¬ (3:Int)=1 by decide),J6e (show ¬ (3:Int)=2 by decide),J6g (show (3:Int)=3 from rfl)]
 rw [show J37 (3,t,0,([]:List UInt8),zTx,zQy,([]:List UInt8),()).2.1 now q () () D K V s B () c r e () ca cq mi x y z hb () us ac=some 0 from by unfold J37; rw [J6e (show ¬ t < now by omega),J6e (show ¬ 1073741824 < t by omega)]]
 try rfl
theorem Jzf (now q:Int) (D:List (List UInt8)) (K:List (List (List UInt8))) (V:List Val) (s:Stt) (B:List Block) (c:Cli) (r:Int×Int×Int×Unit) (e:List (Int×Ent)) (ca:List (Int×Ce)) (cq:List CalT×Unit) (mi:Mir) (x y z:Int) (hb:Bool) (us:List (List UInt8×Int)) (ac:List CalT) (r':Int×Int×Int×Unit) (e':List (Int×Ent)) (t:Mst3) (k l:List Int) (h:Jf () c r e () ca cq mi x y z hb () us=some ((),c,r',e',(),ca,([],()),t.1,t.2.1,y,z,t.2.2,(),us,k,l)) :
  Jg (5,0,0,[],zTx,zQy,[],()) now q () () D K V s B () c r e () ca cq mi x y z hb () us ac=some (zR 0 0 k l,now,q,(),(),D,K,V,s,(),c,r',e',(),ca,([],()),t.1,t.2.1,y,z,t.2.2,(),us,B,ac):=by
 unfold Jg
 rw [J6e (show ¬ (5:Int)=1 by decide),J6e (show ¬ (5:Int)=2 by decide),J6e (show ¬ (5:Int)=3 by decide),J6e (show ¬ (5:Int)=4 by decide),J6g (show (5:Int)=5 from rfl)]
 show andThen (Jf () c r e () ca cq mi x y z hb () us) _=_
 rw [h]
 try rfl
theorem K2c (now q:Int) (D:List (List UInt8)) (K:List (List (List UInt8))) (V:List Val) (s:Stt) (B:List Block) (c:Cli) (r:Int×Int×Int×Unit) (e:List (Int×Ent)) (ca:List (Int×Ce)) (cq:List CalT×Unit) (mi:Mir) (x y z:Int) (hb:Bool) (us:List (List UInt8×Int)) (ac:List CalT) (w:List UInt8) (t n er y' z':Int) (us':List (List UInt8×Int)) (h:J0x w t () c r e () ca cq mi x y z hb () us=some (n,er,y',z',us')) :
  Jg (10,t,0,w,zTx,zQy,[],()) now q () () D K V s B () c r e () ca cq mi x y z hb () us ac=some (zR er n [] [],now,q,(),(),D,K,V,s,(),c,r,e,(),ca,cq,mi,x,y',z',hb,(),us',B,ac):=by
 unfold Jg
 rw [J6e (show ¬ (10:Int)=1 by decide),J6e (show ¬ (10:Int)=2 by decide),J6e (show ¬ (10:Int)=3 by decide),J6e (show ¬ (10:Int)=4 by decide),J6e (show ¬ (10:Int)=5 by decide),J6e (show ¬ (10:Int)=6 by decide),J6e (show ¬ (10:Int)=7 by decide),J6e (show ¬ (10:Int)=8 by decide),J6e (show ¬ (10:Int)=9 by decide),J6g (show (10:Int)=10 from rfl)]
 show andThen (J0x w t () c r e () ca cq mi x y z hb () us) _=_
 rw [h]
 try rfl
theorem Jzh (now q:Int) (D:List (List UInt8)) (K:List (List (List UInt8))) (V:List Val) (s:Stt) (B:List Block) (c:Cli) (r:Int×Int×Int×Unit) (e:List (Int×Ent)) (ca:List (Int×Ce)) (cq:List CalT×Unit) (mi:Mir) (x y z:Int) (hb:Bool) (us:List (List UInt8×Int)) (ac:List CalT) (er n a b:Int) (c':Cli) (e':List (Int×Ent)) (ca':List (Int×Ce)) (cq':List CalT×Unit) (ac':List CalT) (h:Jv now q () () D K V s B () c r e () ca cq mi x y z hb () us ac=some (zR er n [] [],now,q,(),(),D,K,V,s,B,(),c',r,e',(),ca',cq',mi,x,y,z,hb,(),us,ac')) :
  Jg (13,0,0,[],zTx,zQy,[],()) now q () () D K V s B () c r e () ca cq mi x y z hb () us ac=some (zR er n [] [],now,q,(),(),D,K,V,s,(),c',r,e',(),ca',cq',mi,x,y,z,hb,(),us,B,ac'):=by
 unfold Jg
 rw [J6e (show ¬ (13:Int)=1 by decide),J6e (show ¬ (13:Int)=2 by decide),J6e (show ¬ (13:Int)=3 by decide),J6e (show ¬ (13:Int)=4 by decide),J6e (show ¬ (13:Int)=5 by decide),J6e (show ¬ (13:Int)=6 by decide),J6e (show ¬ (13:Int)=7 by decide),J6e (show ¬ (13:Int)=8 by decide),J6e (show ¬ (13:Int)=9 by decide),J6e (show ¬ (13:Int)=10 by decide),J6e (show ¬ (13:Int)=11 by decide),J6e (show ¬ (13:Int)=12 by decide),J6g (show (13:Int)=13 from rfl)]
 show andThen (Jv now q () () D K V s B () c r e () ca cq mi x y z hb () us ac) _=_
 rw [h]
 try rfl
theorem getP (k k2:Int) (v:Ce):∀ e:List (Int×Ce),J6r ib k2 (J6x ib k v e)=if k2=k then some v else J6r ib k2 e
 | []=>by
  unfold J6x J6r
  rw [Jie]
  by_cases c:k2=k
  ·rw [decide_eq_true c,cond_true,if_pos c]
  ·rw [decide_eq_false c,cond_false,if_neg c]; rfl
 | p::e=>by
  unfold J6x
  rw [Jie]
  by_cases c:k=p.1
  ·rw [decide_eq_true c,cond_true]
   unfold J6r
   rw [Jie]
   by_cases c2:k2=k
   ·rw [decide_eq_true (show k2=(p.1,v).1 from c2.trans c),cond_true,if_pos c2]
   ·have c3:¬ k2=p.1:=fun h=>c2 (h.trans c.symm)
    rw [decide_eq_false (show ¬ k2=(p.1,v).1 from c3),cond_false,cond_false,if_neg c2]
  ·rw [decide_eq_false c,cond_false]
   unfold J6r
   rw [Jie]
   by_cases c2:k2=p.1
   ·rw [decide_eq_true c2,cond_true,cond_true,if_neg (fun h=>c (by rw [← h,c2]))]
   ·rw [decide_eq_false c2,cond_false,cond_false]; exact getP k k2 v e
theorem lenP (k:Int) (v:Ce):∀ e:List (Int×Ce),(J6x ib k v e).length=if (J6r ib k e).isSome=true then e.length else e.length+1
 | []=>rfl
 | p::e=>by
  unfold J6x J6r
  rw [Jie]
  by_cases c:k=p.1
  ·rw [decide_eq_true c,cond_true,cond_true]; rfl
  ·rw [decide_eq_false c,cond_false,cond_false,List.length_cons,lenP k v e]
   split <;> simp
def cntC (e:List (Int×Ce)):Nat→Nat
 | 0=>0
 | i+1=>cntC e i+if (J6r ib ((i:Int)+1) e).isSome=true then 1 else 0
theorem K0y (e:List (Int×Ce)):∀ i,cntC e i≤i
 | 0=>Nat.le_refl _
 | i+1=>by unfold cntC; have:=K0y e i; split <;> omega
theorem cnt_lt {e:List (Int×Ce)} {j:Nat} (h:(J6r ib ((j:Int)+1) e).isSome=false):∀ i,j < i→cntC e i+1≤i
 | 0,hj=>by omega
 | i+1,hj=>by
  unfold cntC
  by_cases c:j=i
  ·subst c; rw [h]; have:=K0y e j; simp; omega
  ·have:=cnt_lt h i (by omega); split <;> omega
theorem Jvk {e:List (Int×Ce)} {j:Nat} (v:Ce):∀ i,cntC (J6x ib ((j:Int)+1) v e) i=cntC e i+if j < i∧(J6r ib ((j:Int)+1) e).isSome=false then 1 else 0
 | 0=>by simp [cntC]
 | i+1=>by
  unfold cntC
  rw [Jvk v i,getP]
  by_cases c:i=j
  ·subst c
   rw [if_pos (show ((i:Int)+1)=(i:Int)+1 from rfl)]
   cases (J6r ib ((i:Int)+1) e).isSome <;> simp
  ·rw [if_neg (show ¬ ((i:Int)+1=(j:Int)+1) by omega)]
   have:(j < i+1∧(J6r ib ((j:Int)+1) e).isSome=false)↔(j < i∧(J6r ib ((j:Int)+1) e).isSome=false):=by constructor <;> (rintro ⟨a,b⟩; exact ⟨by omega,b⟩)
   simp only [this]
   split <;> split <;> omega
def CaOk (m:Nat) (e:List (Int×Ce)):Prop:=e.length=cntC e m
theorem K22 {m:Nat} (hm:m≤6) {e:List (Int×Ce)} (h:CaOk m e) {j:Nat} (hj:j < m):(J6r ib ((j:Int)+1) e).isSome=true∨e.length < 6:=by
 cases c:(J6r ib ((j:Int)+1) e).isSome with
 | true=>exact .inl rfl
 | false=>have:=cnt_lt c m hj; unfold CaOk at h; exact .inr (by omega)
theorem Jvf {m:Nat} {e:List (Int×Ce)} (h:CaOk m e) {j:Nat} (hj:j < m) (v:Ce):CaOk m (J6x ib ((j:Int)+1) v e):=by
 unfold CaOk at h ⊢
 rw [lenP,Jvk,h]
 cases c:(J6r ib ((j:Int)+1) e).isSome with
 | true=>rw [if_pos rfl,if_neg (fun x=>by cases x.2)]; rfl
 | false=>rw [if_neg (by simp),if_pos ⟨hj,rfl⟩]
theorem Jm6 (k k2:Int) (v:Ce) (e:List (Int×Ce)):Jb9 (J6x ib k v e) k2=if k2=k then v.1.2.1 else Jb9 e k2:=by
 unfold Jb9
 rw [getP]
 split <;> rfl
def Jds (y:Ent):Ent:=if 0 < y.2.2.1 then (y.1,y.2.1,0,()) else y
section
variable (g : Nat → Ent) (h : Int) (l : List Pr) (b : Int) (e : List (Int × Ce))
noncomputable def J7c:Nat→List CalT
 | 0=>[]
 | i+1=>J7c i++if 0 < (g i).2.2.1 then [J7f ((i:Int)+1) (g i).1 h l] else []
noncomputable def J9q:Nat→List (Int×Ce)
 | 0=>e
 | i+1=>if 0 < (g i).2.2.1 then J6x ib ((i:Int)+1) (J7f ((i:Int)+1) (g i).1 h l,b,()) (J9q i) else J9q i
theorem Jgf:∀ i,(J7c g h l i).length≤i
 | 0=>Nat.le_refl _
 | i+1=>by unfold J7c; rw [List.length_append]; have:=Jgf i; split <;> simp <;> omega
theorem Jsr {i:Nat} (c:0 < (g i).2.2.1):J7c g h l (i+1)=J7c g h l i++[J7f ((i:Int)+1) (g i).1 h l]:=by show _++_=_; rw [if_pos c]
theorem K0b {i:Nat} (c:¬ 0 < (g i).2.2.1):J7c g h l (i+1)=J7c g h l i:=by show _++_=_; rw [if_neg c,List.append_nil]
theorem Jl8 {i:Nat} (c:0 < (g i).2.2.1):J9q g h l b e (i+1)=J6x ib ((i:Int)+1) (J7f ((i:Int)+1) (g i).1 h l,b,()) (J9q g h l b e i):=if_pos c
theorem Jpm {i:Nat} (c:¬ 0 < (g i).2.2.1):J9q g h l b e (i+1)=J9q g h l b e i:=if_neg c
end
theorem Jp5 (g:Nat→Ent) (h:Int) {l:List Pr} (hrow:RowG l):∀ i,∀ c ∈ J7c g h l i,Jdm c
 | 0,c,hc=>by cases hc
 | i+1,c,hc=>by
  unfold J7c at hc
  rcases List.mem_append.1 hc with hc | hc
  ·exact Jp5 g h hrow i c hc
  ·split at hc
   ·rw [List.mem_singleton] at hc
    have:=(Jhp ((i:Int)+1) (g i).1 h l hrow).2.1
    subst hc; unfold Jdm J7f; dsimp only; omega
   ·cases hc
theorem Jl7 (g:Nat→Ent) (h:Int) (l:List Pr) (b:Int) {m:Nat} {e:List (Int×Ce)} (he:CaOk m e):∀ i,i≤m→CaOk m (J9q g h l b e i)
 | 0,_=>he
 | i+1,hi=>by
  by_cases c:0 < (g i).2.2.1
  ·rw [Jl8 g h l b e c]; exact Jvf (Jl7 g h l b he i (by omega)) (by omega) _
  ·rw [Jpm g h l b e c]; exact Jl7 g h l b he i (by omega)
theorem Je1 (g:Nat→Ent) (h:Int) (l:List Pr) (b:Int) (e:List (Int×Ce)) {j:Nat}:∀ i,i≤j→Jb9 (J9q g h l b e i) ((j:Int)+1)=Jb9 e ((j:Int)+1)
 | 0,_=>rfl
 | i+1,hi=>by
  by_cases c:0 < (g i).2.2.1
  ·rw [Jl8 g h l b e c,Jm6,if_neg (by omega),Je1 g h l b e i (by omega)]
  ·rw [Jpm g h l b e c,Je1 g h l b e i (by omega)]
section
variable {n : Nat} {p f : Nat → Int} {R : List (List Pr)} {now0 : List Pr}
theorem Jy2 {B:List Block} (hn0:RowB now0) (hR:∀ l ∈ R,RowB l) (hlen:R.length≤16) {g:Nat→Ent} {m:Nat} (hm:m≤6) (hq:∀ j,j < m→(g j).1.1=1∨(g j).1.1=2) {i:Nat} (hi:R.length - 6≤i∧i < R.length) (hrow:RowG (R.getD i [])) {cli:Cli} (hfz:cli.2.2.2.1=false) {now:Int} (hexp:J0l now cli=some false) (hroot:Jt ((i:Int)+1) cli=some (J9m (R.getD i []),true,cli))
  {e:List (Int×Ce)} (he:CaOk m e) (hlast:∀ j,j < m→Jb9 e ((j:Int)+1) < (i:Int)+1) {r:Int×Int×Int×Unit} (hb:0≤r.2.1) (D:List (List UInt8)) (K:List (List (List UInt8))) (V:List Val) (mi:Mir) (x10 x11 x12:Int) (x13:Bool) (x15:List (List UInt8×Int)) (ac:List CalT) (hac:ac.length≤900) (a0 a1 a2 a3 a6 a8 a9 a10:Int) (er:Int) :
  Jv_1 ((i:Int)+1) 1 now (m:Int) () () D K V (stR now0 R) B () cli r (regF g 0 m) () e ([],()) mi x10 x11 x12 x13 () x15 ac a0 a1 a2 a3 () () er 0 a8 a9 () () =
   some (now,(m:Int),(),(),D,K,V,stR now0 R,B,(),cli,r,regF (fun j=>Jds (g j)) 0 m,(),J9q g ((i:Int)+1) (R.getD i []) r.2.1 e m,(J7c g ((i:Int)+1) (R.getD i []) m,()),mi,x10,x11,x12,x13,(),x15,ac++J7c g ((i:Int)+1) (R.getD i []) m,a0,a1,a2,a3,(),(),er,((J7c g ((i:Int)+1) (R.getD i []) m).length:Int),a8,a9,(),()):=by
 have hend:regF (part Jds g m) 0 m=regF (fun j=>Jds (g j)) 0 m:=J9d m 0 fun j _ h2=>if_pos (by omega)
 have hst:regF (part Jds g 0) 0 m=regF g 0 m:=Jxj Jds g m
 rw [← hend,← hst]
 unfold Jv_1
 have:=J6o (step:=fun (s:Int×Cli×List (Int×Ent)×List (Int×Ce)×(List CalT×Unit)×List CalT×Int)=>Jv_1_step ((i:Int)+1) s.1 now (m:Int) () () D K V (stR now0 R) B () s.2.1 r s.2.2.1 () s.2.2.2.1 s.2.2.2.2.1 mi x10 x11 x12 x13 () x15 s.2.2.2.2.2.1 a0 a1 a2 a3 () () er s.2.2.2.2.2.2 a8 a9 () ())
  (fun k (_:Unit)=>((k:Int)+1,cli,regF (part Jds g k) 0 m,J9q g ((i:Int)+1) (R.getD i []) r.2.1 e k,(J7c g ((i:Int)+1) (R.getD i []) k,()),ac++J7c g ((i:Int)+1) (R.getD i []) k,((J7c g ((i:Int)+1) (R.getD i []) k).length:Int))) (fun _ _=>())
  (fun _=>(now,(m:Int),(),(),D,K,V,stR now0 R,B,(),cli,r,regF (part Jds g m) 0 m,(),J9q g ((i:Int)+1) (R.getD i []) r.2.1 e m,(J7c g ((i:Int)+1) (R.getD i []) m,()),mi,x10,x11,x12,x13,(),x15,ac++J7c g ((i:Int)+1) (R.getD i []) m,a0,a1,a2,a3,(),(),er,((J7c g ((i:Int)+1) (R.getD i []) m).length:Int),a8,a9,(),())) m (fun _ _=>True) (fun k w hk _=>⟨?_,trivial⟩) (fun w _=>?_) m 0 () (by omega) trivial
 ·simpa [J7c,J9q] using this
 ·dsimp only
  have hsl:=Jgf g ((i:Int)+1) (R.getD i []) k
  have hgk:part Jds g k k=g k:=if_neg (Nat.lt_irrefl k)
  unfold Jv_1_step
  rw [J6g (by omega),show J0c () cli r (regF (part Jds g k) 0 m) () (J9q g ((i:Int)+1) (R.getD i []) r.2.1 e k) (J7c g ((i:Int)+1) (R.getD i []) k,()) mi x10 x11 x12 x13 () x15=some () from rfl,J6c,openG hk,J6c,hgk,J6h (n:=(k:Int)+1+1) (by omega) (by omega)]
  by_cases c:0 < (g k).2.2.1
  ·rw [decide_eq_true c,show (!true)=false from rfl,J6j]
   rw [K1x hn0 hR hlen hk (by rw [hgk]; exact c) (by rw [hgk]; exact hq k hk) hi hrow hfz hexp hroot (by rw [Je1 _ _ _ _ _ k (Nat.le_refl _)]; exact hlast k hk) (K22 hm (Jl7 _ _ _ _ he k (by omega)) hk) (by omega) (Jp5 g _ hrow k) hb _ _ _ _ _ _ _ _ _ _ _ (by rw [List.length_append]; omega),J6c,hgk]
   dsimp only
   rw [J6g rfl,J6h (by omega) (by omega),Jl8 _ _ _ _ _ c,Jsr _ _ _ c]
   have hp:=Jj1 Jds g m k hk
   rw [show Jds (g k)=((g k).1,(g k).2.1,0,()) from if_pos c] at hp
   rw [hp,List.length_append,List.append_assoc]
   rfl
  ·rw [decide_eq_false c,show (!false)=true from rfl,J7g,Jpm _ _ _ _ _ c,K0b _ _ _ c,Jfa Jds g m k (if_neg c)]
   rfl
 ·dsimp only
  unfold Jv_1_step
  rw [J6e (by omega)]
theorem relayW (hp:PwOk p) (h1:1≤n) (hn:n≤4) (hR:R.length≤16) (hf:Jhl R.length f) {j:Nat} (hj:1≤j∧j < R.length) (T now:Int) (hnow:0≤now∧now≤1099511627776) (q1:¬ T < now - f (j - 1)) (q2:f j≤now) (q:Int) (s:Stt) (r:Int×Int×Int×Unit) (e:List (Int×Ent)) (ca:List (Int×Ce)) (cq:List CalT×Unit) (mi:Mir) (x y z:Int) (hb:Bool) (us:List (List UInt8×Int)) (ac:List CalT) :
  J27 ((j:Int)+1) now q () () (J6k n) (J6n n) (J6i p n) s (BL n p f R) () (cliG n p f R T j) r e () ca cq mi x y z hb () us ac=some (0,cliG n p f R T (j+1)):=by
 unfold J27
 rw [K0u hn hR hj.2,J6c]
 dsimp only
 rw [show (!true)=false from rfl,J6j]
 unfold J1j
 rw [K4b hp h1 hn hR hf hj T now hnow q1 q2]
 rfl
theorem serveW (hp:PwOk p) (h1:1≤n) (hn:n≤4) (hn0:RowB now0) (hR:∀ l ∈ R,RowB l) (hlen:R.length≤16) (hf:Jhl R.length f) {j:Nat} (hj:1≤j∧j+1=R.length) (hrow:RowG (R.getD j [])) {T now:Int} (hnow:0≤now∧now≤1099511627776) (q1:¬ T < now - f (j - 1)) (q2:f j≤now) (q3:¬ T < now - f j) {g:Nat→Ent} {m:Nat} (hm:m≤6) (hq:∀ j,j < m→(g j).1.1=1∨(g j).1.1=2)
  {e:List (Int×Ce)} (he:CaOk m e) (hlast:∀ k,k < m→Jb9 e ((k:Int)+1) < (j:Int)+1) {r:Int×Int×Int×Unit} (hb:0≤r.2.1) (mi:Mir) (x y z:Int) (hb2:Bool) (us:List (List UInt8×Int)) (ac:List CalT) (hac:ac.length≤900) :
  Jv now (m:Int) () () (J6k n) (J6n n) (J6i p n) (stR now0 R) (BL n p f R) () (cliG n p f R T j) r (regF g 0 m) () e ([],()) mi x y z hb2 () us ac =
   some (zR 0 ((J7c g ((j:Int)+1) (R.getD j []) m).length:Int) [] [],now,(m:Int),(),(),J6k n,J6n n,J6i p n,stR now0 R,BL n p f R,(),cliG n p f R T (j+1),r,regF (fun k=>Jds (g k)) 0 m,(),J9q g ((j:Int)+1) (R.getD j []) r.2.1 e m,(J7c g ((j:Int)+1) (R.getD j []) m,()),mi,x,y,z,hb2,(),us,ac++J7c g ((j:Int)+1) (R.getD j []) m):=by
 have hBL:=Juu n p f R
 unfold Jv
 rw [show J25 () (J6k n) (J6n n) (J6i p n) (stR now0 R) (BL n p f R)=some ((j:Int)+1) from by unfold J25; rw [hBL,← hj.2]; rfl,J6c]
 unfold J1t J26
 rw [show (cliG n p f R T j).1=hdK n p f R j from rfl,show (cliG n p f R T j).2.1=J6i p n from rfl,Jhw _ (by rw [Jg3]; omega),J6c,Jfz p hn,J6c,J6c,J6c]
 dsimp only
 rw [latG hj.1,J6c,show (hL n p f R (j - 1)).1=((j - 1:Nat):Int)+1 from hG_1 _ _ _ _ _,J6g (by omega),relayW hp h1 hn hlen hf ⟨hj.1,by omega⟩ T now hnow q1 q2,J6c]
 dsimp only
 rw [Jy2 hn0 hR hlen hm hq (i:=j) (by omega) hrow rfl (by rw [expG hp hn hlen hf (by omega) T now hnow,show j+1 - 1=j from rfl,decide_eq_false q3]) (by
  have:=rootG (n:=n) (p:=p) (f:=f) (R:=R) (j:=j+1) T (h:=j) (by omega)
  exact this) he hlast hb _ _ _ _ _ _ _ _ _ _ hac 0 0 0 0 0 0 0 0 0,J6c]
end
def fI (j:Nat):Int:=(j:Int)+1
theorem K2j (m:Nat) (hm:m≤1000):Jhl m fI:=⟨fun i hi=>by unfold fI; omega,fun i hi=>by unfold fI; omega⟩
def Jed (b:Int) (g:Nat→Ent):Nat→Ent:=fun j=>askG (b+1) (J9t (b+1) (g j))
theorem Jy8 (R:List (List Pr)) (l:List Pr):(R++[l]).getD R.length []=l:=by
 rw [List.getD_eq_getElem?_getD,List.getElem?_append_right (Nat.le_refl _)]; simp
theorem Jy9 {R:List (List Pr)} {l:List Pr} (hR:∀ x ∈ R,RowB x) (hl:RowB l):∀ x ∈ R++[l],RowB x:=fun x hx=>by
 rcases List.mem_append.1 hx with h | h
 ·exact hR x h
 ·rw [List.mem_singleton.1 h]; exact hl
section
variable {n : Nat} {p : Nat → Int} {R : List (List Pr)} {now0 : List Pr}
theorem K28 (hp:PwOk p) (h1:1≤n) (hn:n≤4) (hn0:RowB now0) (hR:∀ l ∈ R,RowB l) (hlen:1≤R.length∧R.length < 16) :
  Jd ((R.length:Int)+1) () (J6k n) (J6n n) (J6i p n) (stR now0 R) (BL n p fI R)=some ((R.length:Int)+1,(),J6k n,J6n n,J6i p n,stR now0 (R++[now0]),BL n p fI R,BL n p fI (R++[now0])):=
 K26 (f:=fI) hp h1 hn hlen hR hn0 (fun j hj=>by unfold fI; omega) (by unfold fI; omega)
theorem Jsk {b:Int} (hp:PwOk p) (h1:1≤n) (hn:n≤4) (hn0:RowB now0) (hR:∀ l ∈ R,RowB l) (hlen:1≤R.length∧R.length < 16) (hrow:RowG now0) {T:Int} (hT:1≤T) {g:Nat→Ent} {m:Nat} (hm:m≤6) (hg:∀ j,Jn8 (g j)) (hq:∀ j,j < m→(Jed b g j).1.1=1∨(Jed b g j).1.1=2)
  {e:List (Int×Ce)} (he:CaOk m e) (hlast:∀ j,j < m→Jb9 e ((j:Int)+1) < (R.length:Int)+1) {a l:Int} (hb:0≤b∧b < 100000) (hl:0≤l∧l≤100000) {cl:List CalT} (hcl:cl.length≤100) {y z:Int} {us:List (List UInt8×Int)} {s t:Mst3} (hc:Jhk y z us cl s t) (ac:List CalT) (hac:ac.length≤900) {N i c:Int} (hi:i < c) (hi0:0≤i∧i≤1000) (hN:0≤N∧N≤1000) :
  Jl_1_step 1 N c i (R.length:Int) (m:Int) () () (J6k n) (J6n n) (J6i p n) (stR now0 R) () (cliG n p fI R T R.length) (a,b,l,()) (regF g 0 m) () e (cl,()) s.1 s.2.1 y z s.2.2 () us (BL n p fI R) ac =
   some (.inl (N+((J7c (Jed b g) ((R.length:Int)+1) now0 m).length:Int),i+1,(R.length:Int)+1,(m:Int),(),(),J6k n,J6n n,J6i p n,stR now0 (R++[now0]),(),cliG n p fI (R++[now0]) T (R.length+1),(a,b+1,l+(J8x (fun j=>J7q (b+1) (g j)) m).length,()),regF (fun j=>Jds (Jed b g j)) 0 m,(),J9q (Jed b g) ((R.length:Int)+1) now0 (b+1) e m,(J7c (Jed b g) ((R.length:Int)+1) now0 m,()),t.1,t.2.1,y,z,t.2.2,(),us,BL n p fI (R++[now0]),ac++J7c (Jed b g) ((R.length:Int)+1) now0 m)):=by
 have hl2:(R++[now0]).length=R.length+1:=by rw [List.length_append]; rfl
 have hs:=Jgf (Jed b g) ((R.length:Int)+1) now0 m
 have h3:=Jzg (R.length:Int) (m:Int) (J6k n) (J6n n) (J6i p n) (stR now0 R) (BL n p fI R) (cliG n p fI R T R.length) (a,b,l,()) (regF g 0 m) e (cl,()) s.1 s.2.1 y z s.2.2 us ac ((R.length:Int)+1) (by omega) (by omega)
 have h2:=Jvv ((R.length:Int)+1) (m:Int) (J6k n) (J6n n) (J6i p n) (stR now0 R) (BL n p fI R) (cliG n p fI R T R.length) (a,b,l,()) (regF g 0 m) e (cl,()) s.1 s.2.1 y z s.2.2 us ac ((R.length:Int)+1) ((R.length:Int)+1) (by omega) _ _ _ (K28 hp h1 hn hn0 hR hlen)
 have hcb:=Jzd (cliG n p fI R T R.length) (m:=m) (by omega) hg a b l hb hl e cl hcl y z us s t hc
 rw [show (fun j=>askG (b+1) (J9t (b+1) (g j)))=Jed b g from rfl] at hcb
 have h5:=Jzf ((R.length:Int)+1) (m:Int) (J6k n) (J6n n) (J6i p n) (stR now0 (R++[now0])) (BL n p fI (R++[now0])) (cliG n p fI R T R.length) (a,b,l,()) (regF g 0 m) e (cl,()) s.1 s.2.1 y z s.2.2 us ac _ _ t _ _ hcb
 have hsv:=serveW (n:=n) (p:=p) (f:=fI) (R:=R++[now0]) (now0:=now0) hp h1 hn hn0 (Jy9 hR hn0) (by omega) (K2j _ (by omega)) (j:=R.length) (by omega) (by rw [Jy8]; exact hrow) (T:=T) (now:=(R.length:Int)+1) (by omega) (by unfold fI; omega) (by unfold fI; omega) (by unfold fI; omega) hm hq he hlast (r:=(a,b+1,l+(J8x (fun j=>J7q (b+1) (g j)) m).length,())) (by show 0≤b+1; omega) t.1 t.2.1 y z t.2.2 us ac hac
 rw [Jy8,Jvi n p fI R now0 T (Nat.le_refl _)] at hsv
 have h13:=Jzh ((R.length:Int)+1) (m:Int) (J6k n) (J6n n) (J6i p n) (stR now0 (R++[now0])) (BL n p fI (R++[now0])) (cliG n p fI R T R.length) (a,b+1,l+(J8x (fun j=>J7q (b+1) (g j)) m).length,()) (regF (Jed b g) 0 m) e ([],()) t.1 t.2.1 y z t.2.2 us ac _ _ 0 0 _ _ _ _ _ hsv
 unfold Jl_1_step
 rw [J6g hi]
 simp only [J34,J6c]
 rw [show max (1:Int) 1=1 from rfl,J6h (n:=(R.length:Int)+1) (by omega) (by omega)]
 rw [show Jg _ _ _ _ _ _ _ _ _ _ _ _ _ _ _ _ _ _ _ _ _ _ _ _ _=_ from h3,J6c]
 dsimp only
 rw [show Jg _ _ _ _ _ _ _ _ _ _ _ _ _ _ _ _ _ _ _ _ _ _ _ _ _=_ from h2,J6c]
 dsimp only
 rw [show Jg _ _ _ _ _ _ _ _ _ _ _ _ _ _ _ _ _ _ _ _ _ _ _ _ _=_ from h5,J6c]
 dsimp only
 rw [show Jg _ _ _ _ _ _ _ _ _ _ _ _ _ _ _ _ _ _ _ _ _ _ _ _ _=_ from h13,J6c]
 dsimp only
 rw [J6h (by omega) (by omega),J6h (by omega) (by omega)]
end
def R1:Pr:=([115,47,97],[9,0],())
theorem Jtd:J00 [R1]=some (9,true):=Jan [([97],9,0)] (by simp) (fun x hx=>by rw [List.mem_singleton.1 hx]; exact ⟨⟨by decide,by decide⟩,by decide,by decide⟩) (by decide)
theorem Jxw:J7v [R1]:=by simp [J7v]
theorem K1l:Jz1 [R1]:=⟨Jxw,by decide,by decide,by decide⟩
theorem Jqt:RowB [R1]:=by
 have h:=st_set (Jp8 Jyh) ([115,47,97],[9,0],())
 exact h.1
theorem Jfh:∀ l ∈ [([]:List Pr)],RowB l:=fun l h=>by rw [List.mem_singleton.1 h]; exact Jas
theorem Jvs:J2l [] [97] 9=some ([R1],0):=
 Jn4 [] Jas [97] ⟨by simp,by simp⟩ rfl (by simp) 9 ⟨by decide,by decide⟩ 9 Jtd
theorem K2r (D:List (List UInt8)) (K:List (List (List UInt8))) (V:List Val) (B:List Block):J0b (3,[97],[],9,0,()) () D K V (stR [] [[]]) B=some (0,stR [R1] [[]]):=by
 unfold J0b
 have e:Jz ([115,47,97],[9,0],()) ([],1,[[]],())=some (true,([R1],1,[[]],())):=by
  rw [Jfp _ (by
   have:=Jp8 Jyh
   exact this)]
  rfl
 rw [show stR [] [[]]=(([],1,[[]],()):Stt) from rfl,Jau _ (by simp),J6c]
 show andThen (J2l [] [97] 9) _=_
 rw [Jvs,J6c,J6g (show ((([R1],(0:Int)):List Pr×Int).2=0) from rfl)]
 show andThen (J0r [97]) _=_
 rw [show J0r [97]=some [115,47,97] from rfl,J6c,Jcp [R1] Jxw (by simp),J6c,J6c]
 show andThen (Jz ([115,47,97],[9,0],()) ([],1,[[]],())) _=_
 rw [e]
 rfl
abbrev zM:Mir:=(0,0,[],false,())
theorem K0w (h:Int) (l:List Pr):J7f 1 Qm h l=(1,h,J89 l [115,47] [115,48],()):=by
 unfold J7f ansS
 rw [if_neg (fun h=>by cases h.1)]
 rfl
theorem Jvg (h:Int):J7f 1 Qm h [R1]=(1,h,rowR [([97],9,0)],()):=by rw [K0w]; rfl
theorem led0:Jl1 0 0 0 []:=⟨by omega,by omega,by omega,by omega,by omega,rfl,trivial⟩
def gB (b:Int):Nat→Ent:=fun _=>(Qm,b+1,0,())
theorem Jzx (b:Int):∀ j,Jn8 (gB b j):=fun _=>⟨by show (0:Int)≤1; omega,by show (1:Int)≤1000; omega,by show (0:Int)≤3; omega,by show (3:Int)≤1000; omega⟩
theorem Jbw (b:Int) (h:0≤b):Jed b (gB b)=fun _=>(Qm,b+1+1,b+1+3,()):=by
 funext j
 unfold Jed J9t J7q gB askG Jb8
 simp [Qm]
 omega
theorem Jmx (b:Int) (h:0≤b):(fun j=>Jds (Jed b (gB b) j))=gB (b+1):=by
 rw [Jbw b h]
 funext j
 unfold Jds gB
 rw [if_pos (show 0 < b+1+3 by omega)]
theorem Jm7 (b:Int) (h:0≤b):J8x (fun j=>J7q (b+1) (gB b j)) 1=[]:=rfl
theorem Jmv (b:Int) (h:0≤b) (t:Int) (l:List Pr):J7c (Jed b (gB b)) t l 1=[J7f 1 Qm t l]:=by
 rw [Jsr _ _ _ (by rw [Jbw b h]; show 0 < b+1+3; omega),Jbw b h]
 rfl
theorem Jl6 (b:Int) (h:0≤b) (t u:Int) (l:List Pr) (e:List (Int×Ce)):J9q (Jed b (gB b)) t l u e 1=J6x ib 1 (J7f 1 Qm t l,u,()) e:=by
 rw [Jl8 _ _ _ _ _ (by rw [Jbw b h]; show 0 < b+1+3; omega),Jbw b h]
 rfl
section
variable {n : Nat} {p : Nat → Int}
theorem K3y (hp:PwOk p) (h1:1≤n) (hn:n≤4):∃ r e ca cq ac,Jl 2 1 1 1 () () (J6k n) (J6n n) (J6i p n) (stR [R1] [[]]) (BL n p fI [[]]) () (cliG n p fI [[]] 50 1) (1,0,0,()) (regF (gB 0) 0 1) () [] ([],()) zM 0 0 0 false () [] [] =
  some (2,3,1,(),(),J6k n,J6n n,J6i p n,stR [R1] [[],[R1],[R1]],(),(cliG n p fI [[],[R1],[R1]] 50 3),r,e,(),ca,([cq],()),(2,9,[R1],false,()),9,0,0,false,(),[],BL n p fI [[],[R1],[R1]],ac)∧Jdm cq:=by
 have A:=Jsk (b:=0) (R:=[[]]) (now0:=[R1]) (T:=50) (g:=gB 0) (m:=1) (e:=[]) (a:=1) (l:=0) (cl:=[]) (y:=0) (z:=0) (us:=[]) (s:=(zM,0,false)) (t:=(zM,0,false)) (N:=0) (i:=0) (c:=2) hp h1 hn Jqt Jfh (by simp) (row_G K1l) (by omega) (by omega) (Jzx 0) (fun j hj=>by rw [Jbw 0 (by omega)]; exact .inr rfl) rfl (fun j hj=>by show (0:Int) < 2; omega) (by omega) (by omega) (by simp) rfl [] (by simp) (by omega) (by omega) (by omega)
 rw [Jmx 0 (by omega),Jm7 0 (by omega),Jmv 0 (by omega),Jl6 0 (by omega)] at A
 have hco:=(Jfy [([97],9,0)] (by simp) (fun x hx=>by rw [List.mem_singleton.1 hx]; exact ⟨⟨by decide,by decide⟩,by decide,by decide⟩) ((Jcq _ (by simp [rowR])).trans rfl) 2 ((zM,0,false):Mst3) (by simp) (y:=0) (z:=0) (us:=[]) led0 (by decide)).1
 have Bq:=Jsk (b:=0+1) (R:=[[],[R1]]) (now0:=[R1]) (T:=50) (g:=gB (0+1)) (m:=1) (e:=J6x ib 1 (J7f 1 Qm 2 [R1],0+1,()) []) (a:=1) (l:=0+0) (cl:=[J7f 1 Qm 2 [R1]]) (y:=0) (z:=0) (us:=[]) (s:=(zM,0,false)) (t:=((2,9,[R1],false,()),9,false)) (N:=0+1) (i:=0+1) (c:=2) hp h1 hn Jqt (Jy9 Jfh Jqt) (by simp) (row_G K1l) (by omega) (by omega) (Jzx _) (fun j hj=>by rw [Jbw (0+1) (by omega)]; exact .inr rfl) rfl (fun j hj=>by
  obtain rfl:j=0:=by omega
  show (2:Int) < 3; omega) (by omega) (by omega) (by simp) ⟨_,by rw [Jvg]; exact hco,rfl⟩ [J7f 1 Qm 2 [R1]] (by simp) (by omega) (by omega) (by omega)
 rw [Jmx (0+1) (by omega),Jm7 (0+1) (by omega),Jmv (0+1) (by omega),Jl6 (0+1) (by omega)] at Bq
 refine ⟨(1,2,0,()),regF (gB 2) 0 1,J6x ib 1 (J7f 1 Qm 3 [R1],2,()) (J6x ib 1 (J7f 1 Qm 2 [R1],1,()) []),J7f 1 Qm 3 [R1],[J7f 1 Qm 2 [R1],J7f 1 Qm 3 [R1]],?_,by rw [Jvg]; show (1:Nat)≤1000; omega⟩
 unfold Jl Jl_1
 rw [show max (2:Int) 0=2 from rfl,J76 (s':=_) A,J76 (s':=_) Bq,J70 rfl]
 rfl
theorem Jle (hn:n≤4) {R:List (List Pr)} (f:Nat→Int) (now q:Int) (s:Stt) (B:List Block) (T:Int) (j:Nat) (r:Int×Int×Int×Unit) (e:List (Int×Ent)) (ca:List (Int×Ce)) (cl:List CalT) (hcl:cl.length≤100) (hc:∀ c ∈ cl,Jdm c) (mh mb:Int) (mr:List Pr) (hmr:mr.length≤1000) (mx:Bool) (x y z:Int) (hb:Bool) (us:List (List UInt8×Int)) (ac:List CalT) :
  J0a now q () () (J6k n) (J6n n) (J6i p n) s B () (cliG n p f R T j) r e () ca (cl,()) (mh,mb,mr,mx,()) x y z hb () us ac =
   some ((),(T,false,()),hdK n p f R j,J6i p n,(),(cl,()),mh,mb,(mx,()),mr):=by
 unfold J0a J39 J26
 rw [show (cliG n p f R T j).1=hdK n p f R j from rfl,show (cliG n p f R T j).2.1=J6i p n from rfl,Jhw _ (by rw [Jg3]; omega),J6c,Jfz p hn,J6c,J6c]
 unfold J3y J3l J36 Jk
 rw [show J2c r e=some () from rfl,J6c,show J3w () ca=some () from rfl,J6c,Jpp cl (by omega) hc,J6c,J6c,J6d (by dsimp only; omega),J6c,J6c,show J2v x y z hb () us=some () from rfl,J6c,J6c]
 rfl
theorem awakeN (hp:PwOk p) (h1:1≤n) (hn:n≤4) (hch:Ji [1]=some ((),J6k n,J6n n,J7r n,J6i p n)):J29=some true:=by
 obtain ⟨r,e,ca,cq,ac,hS,hcq⟩:=K3y (n:=n) (p:=p) hp h1 hn
 have hw:=Jpg (n:=n) (p:=p) (f:=fI) hp h1 hn rfl 50 (by omega)
 rw [show ([hL n p fI [[]] 0],J6i p n,(50:Int),false,())=cliG n p fI [[]] 50 1 from rfl,show regF gM 0 1=regF (gB 0) 0 1 from rfl] at hw
 have hT:=K10 1 1 (J6k n) (J6n n) (J6i p n) (stR [] [[]]) (BL n p fI [[]]) (cliG n p fI [[]] 50 1) (1,0,0,()) (regF (gB 0) 0 1) [] ([],()) zM 0 0 0 false [] (3,[97],[],9,0,()) 0 (stR [R1] [[]]) (K2r _ _ _ _)
 have hC:=Jle (n:=n) (p:=p) hn fI 3 1 (stR [R1] [[],[R1],[R1]]) (BL n p fI [[],[R1],[R1]]) 50 3 (R:=[[],[R1],[R1]]) r e ca [cq] (by simp) (by simpa using hcq) 2 9 [R1] (by simp) false 9 0 0 false [] ac
 unfold J29
 rw [hch,J6c]
 dsimp only
 rw [hw,J6c]
 dsimp only
 rw [show (!decide ((0:Int)=0))=false from rfl,J6j]
 rw [show J1s _ _ _ _ _ _ _ _ _ _ _ _ _ _ _ _ _ _ _ _ _ _ _ _=_ from hT,J6c]
 dsimp only
 rw [hS,J6c]
 dsimp only
 rw [hC,J6c]
 rfl
end
theorem Jfu:J29=some true:=by
 obtain ⟨h1,hn⟩:=Jss [1]
 exact awakeN (K37 [1]) h1 hn (Jre [1] (by simp))
def rowA (t r:Int):List Pr:=rowR [([97],t,r)]
def Jdr (t r u:Int):List Pr:=rowR [([97],t,r),([98],u,0)]
theorem Jsi (t r:Int):J7v (rowA t r):=by simp [J7v,rowA,rowR]
theorem Jqs (t r u:Int):J7v (Jdr t r u):=by
 show List.Pairwise _ [recP [97] t r,recP [98] u 0]
 rw [List.pairwise_cons]
 exact ⟨fun z hz=>by rw [List.mem_singleton.1 hz]; rfl,by simp⟩
theorem K1m (m:List SRec) (hl:m.length≤12) (hr:J7v (rowR m)) (hk:∀ x ∈ m,x.1.length≤14):RowB (rowR m):=by
 refine ⟨hr,by rw [Jc3]; omega,fun q hq=>?_⟩
 obtain ⟨x,hx,rfl⟩:=List.mem_map.1 hq
 have h1:=hk x hx
 have h2:=Jff x.2.1 x.2.2
 refine ⟨?_,by show (recB x.2.1 x.2.2).length≤24; omega⟩
 show ([115,47]++x.1:List UInt8).length≤16
 simp; omega
theorem Jhq {t r:Int} (ht:Amt t) (hr:Amt r) (h:t+r≤1073741824):J00 (rowA t r)=some (t+r,true):=by
 have:=Jan [([97],t,r)] (by simp) (fun x hx=>by rw [List.mem_singleton.1 hx]; exact ⟨ht,hr⟩) (by show t+r+0≤_; omega)
 rw [show RecS [(([97]:List UInt8),t,r)]=t+r+0 from rfl,Int.add_zero] at this
 exact this
theorem Jtc {t r u:Int} (ht:Amt t) (hr:Amt r) (hu:Amt u) (h:t+r+u≤1073741824):J00 (Jdr t r u)=some (t+r+u,true):=by
 have:=Jan [([97],t,r),([98],u,0)] (by simp) (fun x hx=>by
  rcases List.mem_cons.1 hx with rfl | hx
  ·exact ⟨ht,hr⟩
  ·rw [List.mem_singleton.1 hx]; exact ⟨hu,by show (0:Int)≤0; omega,by show (0:Int)≤1073741824; omega⟩) (by show t+r+(u+0+0)≤_; omega)
 rw [show RecS [(([97]:List UInt8),t,r),([98],u,0)]=t+r+(u+0+0) from rfl,show t+r+(u+0+0)=t+r+u from by omega] at this
 exact this
theorem Jd1 (t r:Int):RowB (rowA t r):=K1m _ (by simp) (Jsi t r) (fun x hx=>by rw [List.mem_singleton.1 hx]; simp)
theorem K3n (t r u:Int):RowB (Jdr t r u):=K1m _ (by simp) (Jqs t r u) (fun x hx=>by
 rcases List.mem_cons.1 hx with rfl | hx
 ·simp
 ·rw [List.mem_singleton.1 hx]; simp)
theorem Jwd (t r:Int):J2z (rowA t r) [115,47,97]=some (recB t r,true):=by
 rw [Jcp _ (Jsi t r) (by simp [rowA,rowR])]
 rfl
theorem get_AB (t r u:Int):J2z (Jdr t r u) [115,47,98]=some (recB u 0,true):=by
 rw [Jcp _ (Jqs t r u) (by simp [Jdr,rowR])]
 rfl
theorem Jx1 (t r:Int):mayP (recP [97] t r)=true:=by
 have:=Jff t r
 unfold mayP recP
 simp only [Bool.and_eq_true,decide_eq_true_eq,Bool.not_eq_true',decide_eq_false_iff_not]
 exact ⟨by simp,by simp,by omega⟩
theorem set_A (t r t2 r2:Int):J58 (rowA t r) ([115,47,97],recB t2 r2,())=some (rowA t2 r2,true):=by
 rw [show (([115,47,97]:List UInt8),recB t2 r2,())=recP [97] t2 r2 from rfl,Jqa _ (Jsi t r) (by simp [rowA,rowR])]
 unfold setP
 rw [Jx1]
 rfl
theorem K03 {x z:Int} (hx:Amt x) (hz:Amt z) (h:x+z≤1073741824):J4u (rowA x 0) [97] z=some (rowA x z,0):=by
 have z0:Amt 0:=⟨by omega,by omega⟩
 have hz1:=hz.1; have hz2:=hz.2
 unfold J4u J1z
 rw [Jq9 [97] (by simp),J6c,J6e (by simp),J6e (by simp),Jd3 hz,J6c,Bool.not_true,J6j,show ([115,47]++[97]:List UInt8)=[115,47,97] from rfl,Jwd,J6c,Jmm hx z0,J6c]
 dsimp only
 unfold J1z_1
 rw [J7g,Bool.not_true,J6j,J6j,J6c]
 dsimp only
 unfold J48
 rw [J6c,Int.zero_add,J6h (by omega) (by omega)]
 dsimp only
 rw [J90 rfl,Jj8 hx hz,J6c,set_A,J6c]
 dsimp only
 rw [Bool.not_true,J6j,Jhq hx hz h,J6c]
 rfl
theorem K42 {x z:Int} (hx:1≤x∧x≤1000) (hz:1≤z∧z≤1000):J53 (rowA x 0) [97] 1 (1+z)=some (rowA (x * z / (1+z)) 0,0):=by
 have z0:Amt 0:=⟨by omega,by omega⟩
 have hxa:Amt x:=⟨by omega,by omega⟩
 have hm1:0≤x * z:=Int.mul_nonneg (by omega) (by omega)
 have hm2:x * z≤1000 * 1000:=Int.mul_le_mul hx.2 hz.2 (by omega) (by omega)
 have hd1:0≤x * z / (1+z):=Int.ediv_nonneg hm1 (by omega)
 have hd2:x * z / (1+z)≤x * z:=Int.ediv_le_self _ hm1
 have hda:Amt (x * z / (1+z)):=⟨hd1,by omega⟩
 unfold J53 J1x
 rw [Jq9 [97] (by simp),J6c,J6e (by simp),J6e (by simp),Jd3 ⟨by omega,by omega⟩,J6c,Bool.not_true,J6j,show ([115,47]++[97]:List UInt8)=[115,47,97] from rfl,Jwd,J6c,Jmm hxa z0,J6c]
 dsimp only
 unfold J1x_1
 rw [J7g,Bool.not_true,J6j,J6j,J6c]
 dsimp only
 unfold J4e
 rw [J6e (by omega),J6e (by omega),J6e (by omega),J6d (by omega),J6c,J6h (n:=1+z - 1) (by omega) (by omega),show 1+z - 1=z from by omega,J6h (n:=x * z) (by omega) (by omega),Int.tdiv_eq_ediv_of_nonneg hm1,J6h (by omega) (by omega)]
 dsimp only
 rw [J90 rfl,Jj8 hda z0,J6c,set_A,J6c]
 dsimp only
 rw [Bool.not_true,J6j,Jhq hda z0 (by omega),J6c]
 rfl
theorem put_A (x z:Int):putP (rowA x 0) (recP [98] z 0)=Jdr x 0 z:=rfl
theorem K29 {x:Int} (hx:Amt x):J2l [] [97] x=some (rowA x 0,0):=by
 have h:=Jn4 [] Jas [97] ⟨by simp,by simp⟩ rfl (by simp) x hx (x+0) (Jhq hx ⟨by omega,by omega⟩ (by have:=hx.2; omega))
 exact h
theorem K2b {x z:Int} (hx:Amt x) (hz:Amt z) (h:x+z≤1073741824):J2l (rowA x 0) [98] z=some (Jdr x 0 z,0):=by
 have hb:=Jtc (t:=x) (r:=0) (u:=z) hx ⟨by omega,by omega⟩ hz (by omega)
 rw [← put_A] at hb
 exact Jn4 (rowA x 0) (Jd1 x 0) [98] ⟨by simp,by simp⟩ rfl (by simp [rowA,rowR]) z hz _ hb
theorem Jhv (h:Int) (l:List Pr) (he:J89 l [115,47] [115,48]=l):J7f 1 Qm h l=(1,h,l,()):=by rw [K0w,he]
theorem Jhu (h:Int) (l:List Pr) (he:J89 l [115,47] [115,48]=l) (hl:l.length≤12):Jdm (J7f 1 Qm h l):=by rw [Jhv h l he]; unfold Jdm; dsimp only; omega
section
variable {n : Nat} {p : Nat → Int} {R : List (List Pr)}
theorem Jsq (hp:PwOk p) (h1:1≤n) (hn:n≤4) (m:List SRec) (hm:∀ x ∈ m,Amt x.2.1∧Amt x.2.2) (hB:RowB (rowR m)) (hG:RowG (rowR m)) (he2:J89 (rowR m) [115,47] [115,48]=rowR m) (hR:∀ l ∈ R,RowB l) (hlen:1≤R.length∧R.length < 15) {T:Int} (hT:1≤T)
  {e:List (Int×Ce)} (he:CaOk 1 e) (hlast:Jb9 e 1 < (R.length:Int)+1) {b:Int} (hb:0≤b∧b < 1000) {cl:List CalT} (hcl:cl.length≤100) {y z:Int} {us:List (List UInt8×Int)} {s t:Mst3} (hc:Jhk y z us cl s t) (ht:t.1.1≤(R.length:Int)) (hL:Jl1 t.2.1 y z us) (hy:RecS m≤1073741824 - y) (ac:List CalT) (hac:ac.length≤800) :
  ∃ e' ac',Jl 2 1 (R.length:Int) 1 () () (J6k n) (J6n n) (J6i p n) (stR (rowR m) R) (BL n p fI R) () (cliG n p fI R T R.length) (1,b,0,()) (regF (gB b) 0 1) () e (cl,()) s.1 s.2.1 y z s.2.2 () us ac =
   some (2,(R.length:Int)+2,1,(),(),J6k n,J6n n,J6i p n,stR (rowR m) (R++[rowR m]++[rowR m]),(),cliG n p fI (R++[rowR m]++[rowR m]) T (R.length+2),(1,b+2,0,()),regF (gB (b+2)) 0 1,(),e',([J7f 1 Qm ((R.length:Int)+2) (rowR m)],()),((R.length:Int)+1,RecS m,rowR m,false,()),RecS m,y,z,false,(),us,BL n p fI (R++[rowR m]++[rowR m]),ac')∧CaOk 1 e'∧Jb9 e' 1=(R.length:Int)+2∧ac'.length≤ac.length+2:=by
 have hl12:=hG.2.1
 have hml:m.length≤12:=by rw [← Jc3]; exact hl12
 have A:=Jsk (b:=b) (R:=R) (now0:=rowR m) (T:=T) (g:=gB b) (m:=1) (e:=e) (a:=1) (l:=0) (cl:=cl) (y:=y) (z:=z) (us:=us) (s:=s) (t:=t) (N:=0) (i:=0) (c:=2) hp h1 hn hB hR (by omega) hG hT (by omega) (Jzx b) (fun j hj=>by rw [Jbw b hb.1]; exact .inr rfl) he (fun j hj=>by
  obtain rfl:j=0:=by omega
  exact hlast) (by omega) (by omega) hcl hc ac (by omega) (by omega) (by omega) (by omega)
 rw [Jmx b hb.1,Jm7 b hb.1,Jmv b hb.1,Jl6 b hb.1] at A
 have hl2:(R++[rowR m]).length=R.length+1:=by rw [List.length_append]; rfl
 have hc2:=Jhv ((R.length:Int)+1) (rowR m) he2
 have hco:=(Jfy m (by omega) hm ((Jcq _ (by omega)).trans (congrArg some hG.2.2.2)) ((R.length:Int)+1) t (by omega) hL hy).1
 have ca1:CaOk 1 (J6x ib 1 (J7f 1 Qm ((R.length:Int)+1) (rowR m),b+1,()) e):=Jvf he (j:=0) (by omega) _
 have la1:Jb9 (J6x ib 1 (J7f 1 Qm ((R.length:Int)+1) (rowR m),b+1,()) e) 1=(R.length:Int)+1:=by rw [Jm6,if_pos rfl]; rfl
 have B:=Jsk (b:=b+1) (R:=R++[rowR m]) (now0:=rowR m) (T:=T) (g:=gB (b+1)) (m:=1) (e:=J6x ib 1 (J7f 1 Qm ((R.length:Int)+1) (rowR m),b+1,()) e) (a:=1) (l:=0) (cl:=[J7f 1 Qm ((R.length:Int)+1) (rowR m)]) (y:=y) (z:=z) (us:=us) (s:=t) (t:=(((R.length:Int)+1,RecS m,rowR m,false,()),RecS m,false)) (N:=1) (i:=1) (c:=2) hp h1 hn hB (Jy9 hR hB) (by omega) hG hT (by omega) (Jzx _) (fun j hj=>by rw [Jbw (b+1) (by omega)]; exact .inr rfl) ca1 (fun j hj=>by
  obtain rfl:j=0:=by omega
  show Jb9 _ 1 < _
  rw [la1,hl2]; omega) (by omega) (by omega) (by simp) ⟨_,by rw [hc2]; exact hco,rfl⟩ (ac++[J7f 1 Qm ((R.length:Int)+1) (rowR m)]) (by rw [List.length_append,List.length_singleton]; omega) (by omega) (by omega) (by omega)
 rw [Jmx (b+1) (by omega),Jm7 (b+1) (by omega),Jmv (b+1) (by omega),Jl6 (b+1) (by omega),hl2] at B
 rw [show ((R.length+1:Nat):Int)+1=(R.length:Int)+2 from by omega,show b+1+1=b+2 from by omega,show ((R.length+1:Nat):Int)=(R.length:Int)+1 from by omega] at B
 refine ⟨J6x ib 1 (J7f 1 Qm ((R.length:Int)+2) (rowR m),b+2,()) (J6x ib 1 (J7f 1 Qm ((R.length:Int)+1) (rowR m),b+1,()) e),(ac++[J7f 1 Qm ((R.length:Int)+1) (rowR m)])++[J7f 1 Qm ((R.length:Int)+2) (rowR m)],?_,Jvf ca1 (j:=0) (by omega) _,by rw [Jm6,if_pos rfl]; rfl,by simp⟩
 unfold Jl Jl_1
 rw [show max (2:Int) 0=2 from rfl,J76 (s':=_) A,J76 (s':=_) B,J70 rfl]
 rfl
end
theorem K1n (t r t2 r2:Int):setP (rowA t r) ([115,47,97],recB t2 r2,())=(rowA t2 r2,true):=by
 unfold setP
 rw [show mayP (([115,47,97]:List UInt8),recB t2 r2,())=true from Jx1 t2 r2]
 rfl
theorem setp_0 (x:Int):setP [] ([115,47,97],recB x 0,())=(rowA x 0,true):=by
 unfold setP
 rw [show mayP (([115,47,97]:List UInt8),recB x 0,())=true from Jx1 x 0]
 rfl
theorem may_B (t r:Int):mayP (recP [98] t r)=true:=by
 have:=Jff t r
 unfold mayP recP
 simp only [Bool.and_eq_true,decide_eq_true_eq,Bool.not_eq_true',decide_eq_false_iff_not]
 exact ⟨by simp,by simp,by omega⟩
theorem setp_B (x z:Int):setP (rowA x 0) ([115,47,98],recB z 0,())=(Jdr x 0 z,true):=by
 unfold setP
 rw [show mayP (([115,47,98]:List UInt8),recB z 0,())=true from may_B z 0]
 rfl
section
variable {R : List (List Pr)} (D : List (List UInt8)) (K : List (List (List UInt8))) (V : List Val) (B : List Block)
theorem Jtv (hR:∀ l ∈ R,RowB l) (hl:R.length≤16) {x:Int} (hx:Amt x):J0b (3,[97],[],x,0,()) () D K V (stR [] R) B=some (0,stR (rowA x 0) R):=by
 have e:Jz ([115,47,97],recB x 0,()) (stR [] R)=some (true,stR (rowA x 0) R):=by
  rw [Jfp _ (Jkz Jas hR hl),show (stR [] R).1=[] from rfl,setp_0]; rfl
 unfold J0b
 rw [Jau _ (show (stR [] R).1.length≤2147483648 by show (0:Nat)≤_; omega),J6c]
 show andThen (J2l [] [97] x) _=_
 rw [K29 hx,J6c,J6g (show (((rowA x 0,(0:Int)):List Pr×Int).2=0) from rfl)]
 show andThen (J0r [97]) _=_
 rw [show J0r [97]=some [115,47,97] from rfl,J6c,Jwd,J6c,J6c]
 show andThen (Jz ([115,47,97],recB x 0,()) (stR [] R)) _=_
 rw [e]
 rfl
theorem Jq7 (hR:∀ l ∈ R,RowB l) (hl:R.length≤16) {x z:Int} (hx:Amt x) (hz:Amt z) (h:x+z≤1073741824):J0b (4,[97],[],z,0,()) () D K V (stR (rowA x 0) R) B=some (0,stR (rowA x z) R):=by
 have e:Jz ([115,47,97],recB x z,()) (stR (rowA x 0) R)=some (true,stR (rowA x z) R):=by
  rw [Jfp _ (Jkz (Jd1 x 0) hR hl),show (stR (rowA x 0) R).1=rowA x 0 from rfl,K1n]; rfl
 unfold J0b
 rw [Jau _ (show (stR (rowA x 0) R).1.length≤2147483648 by show (1:Nat)≤_; omega),J6c]
 show andThen (J4u (rowA x 0) [97] z) _=_
 rw [K03 hx hz h,J6c,J6g (show (((rowA x z,(0:Int)):List Pr×Int).2=0) from rfl)]
 show andThen (J0r [97]) _=_
 rw [show J0r [97]=some [115,47,97] from rfl,J6c,Jwd,J6c,J6c]
 show andThen (Jz ([115,47,97],recB x z,()) (stR (rowA x 0) R)) _=_
 rw [e]
 rfl
theorem Jtw (hR:∀ l ∈ R,RowB l) (hl:R.length≤16) {x z:Int} (hx:1≤x∧x≤1000) (hz:1≤z∧z≤1000):J0b (5,[97],[],1,1+z,()) () D K V (stR (rowA x 0) R) B=some (0,stR (rowA (x * z / (1+z)) 0) R):=by
 have e:Jz ([115,47,97],recB (x * z / (1+z)) 0,()) (stR (rowA x 0) R)=some (true,stR (rowA (x * z / (1+z)) 0) R):=by
  rw [Jfp _ (Jkz (Jd1 x 0) hR hl),show (stR (rowA x 0) R).1=rowA x 0 from rfl,K1n]; rfl
 unfold J0b
 rw [Jau _ (show (stR (rowA x 0) R).1.length≤2147483648 by show (1:Nat)≤_; omega),J6c]
 show andThen (J53 (rowA x 0) [97] 1 (1+z)) _=_
 rw [K42 hx hz,J6c,J6g (show (((rowA (x * z / (1+z)) 0,(0:Int)):List Pr×Int).2=0) from rfl)]
 show andThen (J0r [97]) _=_
 rw [show J0r [97]=some [115,47,97] from rfl,J6c,Jwd,J6c,J6c]
 show andThen (Jz ([115,47,97],recB (x * z / (1+z)) 0,()) (stR (rowA x 0) R)) _=_
 rw [e]
 rfl
theorem Jq6 (hR:∀ l ∈ R,RowB l) (hl:R.length≤16) {x z:Int} (hx:Amt x) (hz:Amt z) (h:x+z≤1073741824):J0b (3,[98],[],z,0,()) () D K V (stR (rowA x 0) R) B=some (0,stR (Jdr x 0 z) R):=by
 have e:Jz ([115,47,98],recB z 0,()) (stR (rowA x 0) R)=some (true,stR (Jdr x 0 z) R):=by
  rw [Jfp _ (Jkz (Jd1 x 0) hR hl),show (stR (rowA x 0) R).1=rowA x 0 from rfl,setp_B]; rfl
 unfold J0b
 rw [Jau _ (show (stR (rowA x 0) R).1.length≤2147483648 by show (1:Nat)≤_; omega),J6c]
 show andThen (J2l (rowA x 0) [98] z) _=_
 rw [K2b hx hz h,J6c,J6g (show (((Jdr x 0 z,(0:Int)):List Pr×Int).2=0) from rfl)]
 show andThen (J0r [98]) _=_
 rw [show J0r [98]=some [115,47,98] from rfl,J6c,get_AB,J6c,J6c]
 show andThen (Jz ([115,47,98],recB z 0,()) (stR (rowA x 0) R)) _=_
 rw [e]
 rfl
end
theorem mint0 {y:Int} (hy:1≤y∧y≤1000) (c:Cli) (r:Int×Int×Int×Unit) (e:List (Int×Ent)) (ca:List (Int×Ce)) (cq:List CalT×Unit) (mi:Mir) :
  J0x [117] y () c r e () ca cq mi 0 0 0 false () []=some (y,0,y,y,[([117],y)]):=by
 unfold J0x J3z
 rw [show J5x [117] y=some true from by
  unfold J5x
  rw [Jaz (by simp),J6g (by simp),J6g hy.1,decide_eq_true (by omega)],J6c,show (!true)=false from rfl,J6j,J6j,J6e (by omega),J6e (by omega),J6h (n:=(1073741824:Int) - 0) (by omega) (by omega),J6e (by omega),Jxn led0,J6c,show (0:Int)+0=0 from rfl,J6h (n:=(1073741824:Int) - 0) (by omega) (by omega),J6e (by omega)]
 rw [show Option.getD (Jca ([117]:List UInt8) ([]:List (List UInt8×Int))) (0:Int)=0 from rfl,J6g rfl,J6e (by simp),Int.zero_add,J6h (by omega) (by omega)]
 rfl
theorem led1 {y:Int} (hy:1≤y∧y≤1000) {s:Int} (hs:0≤s∧s≤10000):Jl1 s y y [([117],y)]:=
 ⟨hs.1,by omega,by omega,by omega,by omega,by show y+0=y; omega,⟨by show 0≤y; omega,trivial⟩⟩
theorem recA (t r:Int):RecS [(([97]:List UInt8),t,r)]=t+r:=by show t+r+0=t+r; omega
theorem recAB (t r u:Int):RecS [(([97]:List UInt8),t,r),([98],u,0)]=t+r+u:=by show t+r+(u+0+0)=t+r+u; omega
theorem Jsm {l:List Pr} (hr:J7v l) (hm:∀ p ∈ l,mayP p=true) (hl:l.length≤12):RowG l:=by
 have h:=(Ja1 l).2 ⟨hr,hm,by omega⟩
 exact ⟨hr,hl,(Jcz h).1,h⟩
theorem Jsl (t r:Int):RowG (rowA t r):=Jsm (Jsi t r) (fun q hq=>by
 rw [show rowA t r=[recP [97] t r] from rfl,List.mem_singleton] at hq
 rw [hq]; exact Jx1 t r) (by simp [rowA,rowR])
theorem K3p (t r u:Int):RowG (Jdr t r u):=Jsm (Jqs t r u) (fun q hq=>by
 rw [show Jdr t r u=[recP [97] t r,recP [98] u 0] from rfl] at hq
 rcases List.mem_cons.1 hq with rfl | hq
 ·exact Jx1 t r
 ·rw [List.mem_singleton.1 hq]; exact may_B u 0) (by simp [Jdr,rowR])
theorem Jrz {s p a:Int} {m:List (List UInt8×Int)} (h:Jl1 s p a m) (b:Bool) (u:Unit):J01 s p a b u m=some (s+p,a):=by
 have s0:=h.s0; have p0:=h.p0; have tp:=h.top; have a0:=h.a0; have a1:=h.a1
 unfold J01
 rw [Jxn h,J6c,J6d (by omega),J6d (by omega)]
section
variable {n : Nat} {p : Nat → Int}
theorem slash1 (hp:PwOk p) (h1:1≤n) (hn:n≤4) {x y:Int} (hx:1≤x∧x≤1000) (hy:1≤y∧y≤1000) :
  ∃ e' ac',Jl 2 1 1 1 () () (J6k n) (J6n n) (J6i p n) (stR (rowA x 0) [[]]) (BL n p fI [[]]) () (cliG n p fI [[]] 80 1) (1,0,0,()) (regF (gB 0) 0 1) () [] ([],()) zM 0 y y false () [([117],y)] [] =
   some (2,3,1,(),(),J6k n,J6n n,J6i p n,stR (rowA x 0) [[],rowA x 0,rowA x 0],(),cliG n p fI [[],rowA x 0,rowA x 0] 80 3,(1,2,0,()),regF (gB 2) 0 1,(),e',([J7f 1 Qm 3 (rowA x 0)],()),(2,x,rowA x 0,false,()),x,y,y,false,(),[([117],y)],BL n p fI [[],rowA x 0,rowA x 0],ac')∧CaOk 1 e'∧Jb9 e' 1=3∧ac'.length≤2:=by
 have hxa:Amt x:=⟨by omega,by omega⟩
 have z0:Amt 0:=⟨by omega,by omega⟩
 obtain ⟨e',ac',h,c1,c2,c3⟩:=Jsq (n:=n) (p:=p) (R:=[[]]) hp h1 hn [([97],x,0)] (fun q hq=>by rw [List.mem_singleton.1 hq]; exact ⟨hxa,z0⟩) (Jd1 x 0) (Jsl x 0) rfl Jfh (by simp) (T:=80) (by omega) (e:=[]) rfl (by show (0:Int) < 2; omega) (b:=0) (by omega) (cl:=[]) (by simp) (y:=y) (z:=y) (us:=[([117],y)]) (s:=(zM,0,false)) (t:=(zM,0,false)) rfl (by simp) (led1 hy (by simp)) (by rw [recA]; omega) [] (by simp)
 rw [recA,Int.add_zero] at h
 exact ⟨e',ac',h,c1,c2,by simpa using c3⟩
theorem slash2 (hp:PwOk p) (h1:1≤n) (hn:n≤4) {x y:Int} (hx:1≤x∧x≤1000) (hy:1≤y∧y≤1000) (m:List SRec) (hm:∀ x ∈ m,Amt x.2.1∧Amt x.2.2) (hB:RowB (rowR m)) (hG:RowG (rowR m)) (he2:J89 (rowR m) [115,47] [115,48]=rowR m) (hS:RecS m≤3000)
  {e:List (Int×Ce)} (he:CaOk 1 e) (hl:Jb9 e 1=3) (ac:List CalT) (hac:ac.length≤2) :
  ∃ e' ac' R',Jl 2 1 3 1 () () (J6k n) (J6n n) (J6i p n) (stR (rowR m) [[],rowA x 0,rowA x 0]) (BL n p fI [[],rowA x 0,rowA x 0]) () (cliG n p fI [[],rowA x 0,rowA x 0] 80 3) (1,2,0,()) (regF (gB 2) 0 1) () e ([J7f 1 Qm 3 (rowA x 0)],()) (2,x,rowA x 0,false,()) x y y false () [([117],y)] ac =
   some (2,5,1,(),(),J6k n,J6n n,J6i p n,stR (rowR m) R',(),cliG n p fI R' 80 5,(1,4,0,()),regF (gB 4) 0 1,(),e',([J7f 1 Qm 5 (rowR m)],()),(4,RecS m,rowR m,false,()),RecS m,y,y,false,(),[([117],y)],BL n p fI R',ac'):=by
 have hxa:Amt x:=⟨by omega,by omega⟩
 have z0:Amt 0:=⟨by omega,by omega⟩
 have hco:=(Jfy [([97],x,0)] (by simp) (fun q hq=>by rw [List.mem_singleton.1 hq]; exact ⟨hxa,z0⟩) ((Jcq _ (by simp [rowR])).trans (congrArg some (Jsl x 0).2.2.2)) 3 (((2,x,rowA x 0,false,()),x,false):Mst3) (by simp) (y:=y) (z:=y) (us:=[([117],y)]) (led1 hy (by dsimp only; omega)) (by rw [recA]; omega)).1
 rw [recA,Int.add_zero] at hco
 obtain ⟨e',ac',h,_⟩:=Jsq (n:=n) (p:=p) (R:=[[],rowA x 0,rowA x 0]) hp h1 hn m hm hB hG he2 (fun l hl=>by
  rcases List.mem_cons.1 hl with rfl | hl
  ·exact Jas
  ·rcases List.mem_cons.1 hl with rfl | hl
   ·exact Jd1 x 0
   ·rw [List.mem_singleton.1 hl]; exact Jd1 x 0) (by simp) (T:=80) (by omega) (e:=e) he (by rw [hl]; show (3:Int) < 4; omega) (b:=2) (by omega) (cl:=[J7f 1 Qm 3 (rowA x 0)]) (by simp) (y:=y) (z:=y) (us:=[([117],y)]) (s:=((2,x,rowA x 0,false,()),x,false)) (t:=((3,x,rowA x 0,false,()),x,false)) ⟨_,by rw [Jhv 3 (rowA x 0) rfl]; exact hco,rfl⟩ (by show (3:Int)≤3; omega) (led1 hy (by dsimp only; omega)) (by omega) ac (by omega)
 exact ⟨e',ac',_,h⟩
theorem Jy7 (hp:PwOk p) (h1:1≤n) (hn:n≤4) {x y:Int} (hx:1≤x∧x≤1000) (hy:1≤y∧y≤1000) (m:List SRec) (hm:∀ x ∈ m,Amt x.2.1∧Amt x.2.2) (hB:RowB (rowR m)) (hG:RowG (rowR m)) (he2:J89 (rowR m) [115,47] [115,48]=rowR m) (hS:0≤RecS m∧RecS m≤3000) (hl:m.length≤12)
  {e:List (Int×Ce)} (he:CaOk 1 e) (hle:Jb9 e 1=3) (ac:List CalT) (hac:ac.length≤2) :
  ∃ e' ac' R' c',Jl 2 1 3 1 () () (J6k n) (J6n n) (J6i p n) (stR (rowR m) [[],rowA x 0,rowA x 0]) (BL n p fI [[],rowA x 0,rowA x 0]) () (cliG n p fI [[],rowA x 0,rowA x 0] 80 3) (1,2,0,()) (regF (gB 2) 0 1) () e ([J7f 1 Qm 3 (rowA x 0)],()) (2,x,rowA x 0,false,()) x y y false () [([117],y)] ac =
   some (2,5,1,(),(),J6k n,J6n n,J6i p n,stR (rowR m) R',(),cliG n p fI R' 80 5,(1,4,0,()),regF (gB 4) 0 1,(),e',([J7f 1 Qm 5 (rowR m)],()),(4,RecS m,rowR m,false,()),RecS m,y,y,false,(),[([117],y)],BL n p fI R',ac')∧
   J0a 5 1 () () (J6k n) (J6n n) (J6i p n) (stR (rowR m) R') (BL n p fI R') () (cliG n p fI R' 80 5) (1,4,0,()) (regF (gB 4) 0 1) () e' ([J7f 1 Qm 5 (rowR m)],()) (4,RecS m,rowR m,false,()) (RecS m) y y false () [([117],y)] ac'=some c'∧
   J01 (RecS m) y y false () [([117],y)]=some (RecS m+y,y):=by
 obtain ⟨e',ac',R',h⟩:=slash2 (n:=n) (p:=p) hp h1 hn hx hy m hm hB hG he2 hS.2 he hle ac hac
 have hC:=Jle (n:=n) (p:=p) hn fI 5 1 (stR (rowR m) R') (BL n p fI R') 80 5 (R:=R') (1,4,0,()) (regF (gB 4) 0 1) e' [J7f 1 Qm 5 (rowR m)] (by simp) (fun c hc=>by rw [List.mem_singleton.1 hc]; exact Jhu 5 (rowR m) he2 (by rw [Jc3]; omega)) 4 (RecS m) (rowR m) (by rw [Jc3]; omega) false (RecS m) y y false [([117],y)] ac'
 refine ⟨e',ac',R',_,h,hC,?_⟩
 have hL:=led1 (s:=RecS m) hy ⟨hS.1,by omega⟩
 rw [Jrz hL]
theorem slashN (hp:PwOk p) (h1:1≤n) (hn:n≤4) (y0 y1 y2 y3:Int)
  (hb:∃ u,J3t [1] 80 1 3=some (1,1,(),(),J6k n,J6n n,J6i p n,stR [] [[]],BL n p fI [[]],(),cliG n p fI [[]] 80 1,(1,0,0,()),regF (gB 0) 0 1,(),[],([],()),zM,0,0,0,false,(),[],u)):J3o y0 y1 y2 y3=some true:=by
 obtain ⟨u,hb⟩:=hb
 obtain ⟨x,hx,x1,x2⟩:=Jd8 y0 1 1000 (by omega) (by omega) (by omega)
 obtain ⟨y,hy,y1',y2'⟩:=Jd8 y1 1 1000 (by omega) (by omega) (by omega)
 obtain ⟨z,hz,z1,z2⟩:=Jd8 y2 1 1000 (by omega) (by omega) (by omega)
 obtain ⟨k,hk,k1,k2⟩:=Jd8 y3 0 2 (by omega) (by omega) (by omega)
 have hxa:Amt x:=⟨by omega,by omega⟩
 have hza:Amt z:=⟨by omega,by omega⟩
 have z0:Amt 0:=⟨by omega,by omega⟩
 have hT:=K10 1 1 (J6k n) (J6n n) (J6i p n) (stR [] [[]]) (BL n p fI [[]]) (cliG n p fI [[]] 80 1) (1,0,0,()) (regF (gB 0) 0 1) [] ([],()) zM 0 0 0 false [] (3,[97],[],x,0,()) 0 (stR (rowA x 0) [[]]) (Jtv (J6k n) (J6n n) (J6i p n) (BL n p fI [[]]) Jfh (by simp) hxa)
 have hM:=K2c 1 1 (J6k n) (J6n n) (J6i p n) (stR (rowA x 0) [[]]) (BL n p fI [[]]) (cliG n p fI [[]] 80 1) (1,0,0,()) (regF (gB 0) 0 1) [] ([],()) zM 0 0 0 false [] [] [117] y y 0 y y [([117],y)] (mint0 ⟨y1',y2'⟩ _ _ _ _ _ _)
 obtain ⟨e1,ac1,hS,hc,hl,ha⟩:=slash1 (n:=n) (p:=p) hp h1 hn ⟨x1,x2⟩ ⟨y1',y2'⟩
 have hrA:∀ t r:Int,J89 (rowA t r) [115,47] [115,48]=rowA t r:=fun t r=>rfl
 have hC:=Jle (n:=n) (p:=p) hn fI 3 1 (stR (rowA x 0) [[],rowA x 0,rowA x 0]) (BL n p fI [[],rowA x 0,rowA x 0]) 80 3 (R:=[[],rowA x 0,rowA x 0]) (1,2,0,()) (regF (gB 2) 0 1) e1 [J7f 1 Qm 3 (rowA x 0)] (by simp) (fun c hc=>by rw [List.mem_singleton.1 hc]; exact Jhu 3 (rowA x 0) (hrA x 0) (by simp [rowA,rowR])) 2 x (rowA x 0) (by simp [rowA,rowR]) false x y y false [([117],y)] ac1
 have hP:J01 x y y false () [([117],y)]=some (x+y,y):=Jrz (led1 ⟨y1',y2'⟩ ⟨by omega,by omega⟩) _ _
 have hR:∀ l ∈ [[],rowA x 0,rowA x 0],RowB l:=fun l hl=>by
  rcases List.mem_cons.1 hl with rfl | hl
  ·exact Jas
  ·rcases List.mem_cons.1 hl with rfl | hl
   ·exact Jd1 x 0
   ·rw [List.mem_singleton.1 hl]; exact Jd1 x 0
 have m1:x * y≤1000 * 1000:=Int.mul_le_mul x2 y2' (by omega) (by omega)
 have m2:y * y≤1000 * 1000:=Int.mul_le_mul y2' y2' (by omega) (by omega)
 have m3:z * y≤1000 * 1000:=Int.mul_le_mul z2 y2' (by omega) (by omega)
 have m4:x * z≤1000 * 1000:=Int.mul_le_mul x2 z2 (by omega) (by omega)
 have n1:0≤x * y:=Int.mul_nonneg (by omega) (by omega)
 have n2:0≤y * y:=Int.mul_nonneg (by omega) (by omega)
 have n3:0≤z * y:=Int.mul_nonneg (by omega) (by omega)
 have n4:0≤x * z:=Int.mul_nonneg (by omega) (by omega)
 have d0:0≤x * z / (1+z):=Int.ediv_nonneg n4 (by omega)
 have d1:x * z / (1+z) < x:=Int.ediv_lt_of_lt_mul (by omega) (by rw [Int.mul_add]; omega)
 have d2:x * z / (1+z) * y≤x * y:=Int.mul_le_mul_of_nonneg_right (by omega) (by omega)
 have d3:0≤x * z / (1+z) * y:=Int.mul_nonneg d0 (by omega)
 unfold J3o
 rw [hb,J6c,hx,J6c,hy,J6c,hz,J6c]
 dsimp only
 rw [show J1s _ _ _ _ _ _ _ _ _ _ _ _ _ _ _ _ _ _ _ _ _ _ _ _=_ from hT,J6c]
 dsimp only
 rw [show Jg _ _ _ _ _ _ _ _ _ _ _ _ _ _ _ _ _ _ _ _ _ _ _ _ _=_ from hM,J6c]
 dsimp only
 rw [hS,J6c]
 dsimp only
 rw [hC,J6c,hk,J6c]
 dsimp only
 have hw:w64 (x+y)=x+y:=J6h (by omega) (by omega)
 by_cases c1:k=1
 ·rw [J6g c1]
  obtain ⟨e2,ac2,R2,c2,h2,hC2,hP2⟩:=Jy7 (n:=n) (p:=p) hp h1 hn ⟨x1,x2⟩ ⟨y1',y2'⟩ [([97],x,z)] (fun q hq=>by rw [List.mem_singleton.1 hq]; exact ⟨hxa,hza⟩) (Jd1 x z) (Jsl x z) (hrA x z) (by rw [recA]; omega) (by simp) hc hl ac1 ha
  rw [recA] at h2 hC2 hP2
  have hT2:=K2d 3 1 (J6k n) (J6n n) (J6i p n) (stR (rowA x 0) [[],rowA x 0,rowA x 0]) (BL n p fI [[],rowA x 0,rowA x 0]) (cliG n p fI [[],rowA x 0,rowA x 0] 80 3) (1,2,0,()) (regF (gB 2) 0 1) e1 ([J7f 1 Qm 3 (rowA x 0)],()) (2,x,rowA x 0,false,()) x y y false [([117],y)] ac1 (4,[97],[],z,0,()) 0 (stR (rowA x z) [[],rowA x 0,rowA x 0]) (Jq7 (J6k n) (J6n n) (J6i p n) (BL n p fI [[],rowA x 0,rowA x 0]) hR (by simp) hxa hza (by omega))
  rw [show rowA x z=rowR [([97],x,z)] from rfl] at hT2
  rw [show Jg _ _ _ _ _ _ _ _ _ _ _ _ _ _ _ _ _ _ _ _ _ _ _ _ _=_ from hT2,J6c]
  dsimp only
  rw [h2,J6c]
  dsimp only
  rw [hC2,J6c]
  rw [show ∀ a b c d e f g h i j k l m,J4 a b c d e f g h i j k l m x y y false () [([117],y)]=some () from fun _ _ _ _ _ _ _ _ _ _ _ _ _=>rfl,J6c]
  rw [show ∀ a b c d e f g h i j k l m,J4 a b c d e f g h i j k l m (x+z) y y false () [([117],y)]=some () from fun _ _ _ _ _ _ _ _ _ _ _ _ _=>rfl,J6c,J6c,hP,J6c,J6c,hP2,J6c]
  dsimp only
  rw [hw,J6d (by omega),J6d (by omega),decide_eq_true rfl,show (!true)=false from rfl,J6j,decide_eq_true rfl,show (!true)=false from rfl,J6j]
  rw [show J0w [117] (x+z) y y false () [([117],y)]=some y from rfl,J6c,J6c,decide_eq_true rfl,show (!true)=false from rfl,J6j]
  unfold J45
  rw [J6c]
  dsimp only
  rw [J6h (n:=(x+y) * y) (by rw [Int.add_mul]; omega) (by rw [Int.add_mul]; omega),J6h (n:=(x+z+y) * y) (by rw [Int.add_mul,Int.add_mul]; omega) (by rw [Int.add_mul,Int.add_mul]; omega),decide_eq_true (by rw [Int.add_mul,Int.add_mul,Int.add_mul]; omega),J7g,J6d (by omega),J6d (by omega),J6g (by omega),Jfu,J6c]
 ·rw [J6e c1]
  by_cases c2:k=2
  ·rw [J6g c2]
   obtain ⟨e2,ac2,R2,c2,h2,hC2,hP2⟩:=Jy7 (n:=n) (p:=p) hp h1 hn ⟨x1,x2⟩ ⟨y1',y2'⟩ [([97],x,0),([98],z,0)] (fun q hq=>by
    rcases List.mem_cons.1 hq with rfl | hq
    ·exact ⟨hxa,z0⟩
    ·rw [List.mem_singleton.1 hq]; exact ⟨hza,z0⟩) (K3n x 0 z) (K3p x 0 z) rfl (by rw [recAB]; omega) (by simp) hc hl ac1 ha
   rw [recAB,Int.add_zero] at h2 hC2 hP2
   have hT2:=K2d 3 1 (J6k n) (J6n n) (J6i p n) (stR (rowA x 0) [[],rowA x 0,rowA x 0]) (BL n p fI [[],rowA x 0,rowA x 0]) (cliG n p fI [[],rowA x 0,rowA x 0] 80 3) (1,2,0,()) (regF (gB 2) 0 1) e1 ([J7f 1 Qm 3 (rowA x 0)],()) (2,x,rowA x 0,false,()) x y y false [([117],y)] ac1 (3,[98],[],z,0,()) 0 (stR (Jdr x 0 z) [[],rowA x 0,rowA x 0]) (Jq6 (J6k n) (J6n n) (J6i p n) (BL n p fI [[],rowA x 0,rowA x 0]) hR (by simp) hxa hza (by omega))
   rw [show Jdr x 0 z=rowR [([97],x,0),([98],z,0)] from rfl] at hT2
   rw [show Jg _ _ _ _ _ _ _ _ _ _ _ _ _ _ _ _ _ _ _ _ _ _ _ _ _=_ from hT2,J6c]
   dsimp only
   rw [h2,J6c]
   dsimp only
   rw [hC2,J6c]
   rw [show ∀ a b c d e f g h i j k l m,J4 a b c d e f g h i j k l m x y y false () [([117],y)]=some () from fun _ _ _ _ _ _ _ _ _ _ _ _ _=>rfl,J6c]
   rw [show ∀ a b c d e f g h i j k l m,J4 a b c d e f g h i j k l m (x+z) y y false () [([117],y)]=some () from fun _ _ _ _ _ _ _ _ _ _ _ _ _=>rfl,J6c,J6c,hP,J6c,J6c,hP2,J6c]
   dsimp only
   rw [hw,J6d (by omega),J6d (by omega),decide_eq_true rfl,show (!true)=false from rfl,J6j,decide_eq_true rfl,show (!true)=false from rfl,J6j]
   rw [show J0w [117] (x+z) y y false () [([117],y)]=some y from rfl,J6c,J6c,decide_eq_true rfl,show (!true)=false from rfl,J6j]
   unfold J45
   rw [J6c]
   dsimp only
   rw [J6h (n:=(x+y) * y) (by rw [Int.add_mul]; omega) (by rw [Int.add_mul]; omega),J6h (n:=(x+z+y) * y) (by rw [Int.add_mul,Int.add_mul]; omega) (by rw [Int.add_mul,Int.add_mul]; omega),decide_eq_true (by rw [Int.add_mul,Int.add_mul,Int.add_mul]; omega),J7g,J6d (by omega),J6d (by omega),J6g (by omega),Jfu,J6c]
  ·rw [J6e c2]
   obtain ⟨e2,ac2,R2,c3,h2,hC2,hP2⟩:=Jy7 (n:=n) (p:=p) hp h1 hn ⟨x1,x2⟩ ⟨y1',y2'⟩ [([97],x * z / (1+z),0)] (fun q hq=>by rw [List.mem_singleton.1 hq]; exact ⟨⟨d0,show x * z / (1+z)≤1073741824 by omega⟩,z0⟩) (Jd1 _ 0) (Jsl _ 0) (hrA _ 0) (by rw [recA]; omega) (by simp) hc hl ac1 ha
   rw [recA,Int.add_zero] at h2 hC2 hP2
   rw [J6h (n:=1+z) (by omega) (by omega)]
   have hT2:=K2d 3 1 (J6k n) (J6n n) (J6i p n) (stR (rowA x 0) [[],rowA x 0,rowA x 0]) (BL n p fI [[],rowA x 0,rowA x 0]) (cliG n p fI [[],rowA x 0,rowA x 0] 80 3) (1,2,0,()) (regF (gB 2) 0 1) e1 ([J7f 1 Qm 3 (rowA x 0)],()) (2,x,rowA x 0,false,()) x y y false [([117],y)] ac1 (5,[97],[],1,1+z,()) 0 (stR (rowA (x * z / (1+z)) 0) [[],rowA x 0,rowA x 0]) (Jtw (J6k n) (J6n n) (J6i p n) (BL n p fI [[],rowA x 0,rowA x 0]) hR (by simp) ⟨x1,x2⟩ ⟨z1,z2⟩)
   rw [show rowA (x * z / (1+z)) 0=rowR [([97],x * z / (1+z),0)] from rfl] at hT2
   rw [show Jg _ _ _ _ _ _ _ _ _ _ _ _ _ _ _ _ _ _ _ _ _ _ _ _ _=_ from hT2,J6c]
   dsimp only
   rw [h2,J6c]
   dsimp only
   rw [hC2,J6c]
   rw [show ∀ a b c d e f g h i j k l m,J4 a b c d e f g h i j k l m x y y false () [([117],y)]=some () from fun _ _ _ _ _ _ _ _ _ _ _ _ _=>rfl,J6c]
   rw [show ∀ a b c d e f g h i j k l m,J4 a b c d e f g h i j k l m (x * z / (1+z)) y y false () [([117],y)]=some () from fun _ _ _ _ _ _ _ _ _ _ _ _ _=>rfl,J6c,J6c,hP,J6c,J6c,hP2,J6c]
   dsimp only
   rw [hw,J6d (by omega),J6d (by omega),decide_eq_true rfl,show (!true)=false from rfl,J6j,decide_eq_true rfl,show (!true)=false from rfl,J6j]
   rw [show J0w [117] (x * z / (1+z)) y y false () [([117],y)]=some y from rfl,J6c,J6c,decide_eq_true rfl,show (!true)=false from rfl,J6j]
   unfold J45
   rw [J6c]
   dsimp only
   rw [J6h (n:=(x+y) * y) (by rw [Int.add_mul]; omega) (by rw [Int.add_mul]; omega),J6h (n:=(x * z / (1+z)+y) * y) (by rw [Int.add_mul]; omega) (by rw [Int.add_mul]; omega),decide_eq_true (by rw [Int.add_mul,Int.add_mul]; omega),J7g,J6g (by omega),J6d (by omega),J6h (n:=x * z) (by omega) (by omega),Int.tdiv_eq_ediv_of_nonneg n4,J6h (n:=x * z / (1+z)) (by omega) (by omega),J6h (n:=x * z / (1+z)+y) (by omega) (by omega),J6d (by omega),J6g rfl,Jfu,J6c]
end
theorem law_TopSlash (y0 y1 y2 y3:Int) (w0:Wf (.int .i64) y0) (w1:Wf (.int .i64) y1) (w2:Wf (.int .i64) y2) (w3:Wf (.int .i64) y3):J3o y0 y1 y2 y3=some true:=by
 obtain ⟨h1,hn⟩:=Jss [1]
 exact slashN (K37 [1]) h1 hn y0 y1 y2 y3 (begunG [1] (by simp) fI rfl 80 (by omega))
end Go.Ax.V
