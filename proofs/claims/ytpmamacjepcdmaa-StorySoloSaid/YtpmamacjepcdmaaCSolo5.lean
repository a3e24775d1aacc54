import Derived.Test.YtpmamacjepcdmaaCSolo4
namespace Go.Proofs.Ytpmamacjepcdmaa
open Go Go.Sy Go.RowKit
set_option linter.unusedSimpArgs false
set_option linter.unusedVariables false
def tT (a : Int) (l : List cI) : Nat:=l.countP fun x=>decide (x.slot=a)
theorem vq (m : Mem) (a : Int) : ∀ n b,tT a (cat m n b)=iX (fun i=>(chL m i).count a) n b
 | 0,_=>rfl
 | n + 1,b=>by
  have ih:=vq m a n (b + 1)
  unfold tT at ih ⊢
  simp only [cat,iX]
  rw [List.countP_append,ih,List.countP_map]
  congr 1
theorem xT (m : Mem) (a : Int) : tT a (aq m)=fK m a:=by
 rw [gN,vq];rfl
theorem C9 {w : Wrd} (hl : w.ts.length=1) : w.ts=[tsk w 0]:=by
 obtain ⟨t,ht⟩:=List.length_eq_one_iff.1 hl
 have : tsk w 0=t:=by unfold tsk;rw [ht];rfl
 rw [this,ht]
theorem BF {w : Wrd} (h : Fz w) (hl : w.ts.length=1) {j : Nat} (hj : j < w.m.slots.length) : (msl w.m j).refs=(tT j (aq w.m) : Int) + ((tsk w 0).held.count (j : Int) : Int):=by
 have h1:=h.inv.rf j hj
 have hb:=wc h.idle (u:=0) (by omega) (by omega)
 have e1 : cr (tsk w 0)=-1:=if_neg fun p=>by rw [hb] at p;cases p.1
 rw [xT,h1,C9 hl]
 simp only [iF]
 rw [cu e1,if_neg (by omega)]
 omega
theorem pw {w : Wrd} (h : Fz w) (hl : w.ts.length=1) (a : Int) : (tsk w 0).held.count a≤100:=by
 have:=(h.inv.hd _ (Hf (w:=w) (t:=0) (by omega) (by omega))).1
 exact Nat.le_trans List.count_le_length this
theorem D3 {a : Int} {l : List cI} {j : Nat} (h : j < l.length) : tT a (l.take (j + 1))=tT a (l.take j) + if (l.getD j default).slot=a then 1 else 0:=by
 unfold tT
 have e : l.getD j default=l[j]:=by rw [List.getD_eq_getElem?_getD,List.getElem?_eq_getElem h];rfl
 rw [List.take_succ_eq_append_getElem h,List.countP_append,e,List.countP_singleton]
 simp only [decide_eq_true_eq]
theorem D4 (a : Int) (l : List cI) (j : Nat) : tT a (l.take j)≤l.length:=by
 unfold tT
 exact Nat.le_trans List.countP_le_length (by rw [List.length_take];omega)
def jt : Pik:=⟨0,false,true,⟨0,⟨0,0⟩,0,0,0⟩⟩
theorem FB {m : Mem} {x : Int} : ∀ (f : Nat) (n : Int),walk { m with now:=x} f n=walk m f n
 | 0,_=>rfl
 | f + 1,n=>by
  simp only [walk]
  split
  ·rfl
  ·rw [FB f];rfl
theorem FD (m : Mem) (x : Int) (b : Nat) : chL { m with now:=x} b=chL m b:=by
 unfold chL bP cQ walked
 rw [FB];rfl
theorem yN {w : Wrd} : aq { w.m with now:=w.m.now + 1}=aq w.m:=by
 rw [gN,gN]
 refine pO fun i _ _=>?_
 rw [FD];rfl
theorem Bx {w : Wrd} (h : Fz w) (hd : (doW w.G4 jt).2=0) : doW w.G4 jt=(⟨{ w.m with now:=w.m.now + 1},w.ts⟩,0)∧Fz ⟨{ w.m with now:=w.m.now + 1},w.ts⟩:=by
 have hdo : doW w.G4 jt=if (bN w jt).2≠0 then (Wrd.none,(bN w jt).2) else ((bN w jt).1,0):=by
  unfold doW
  rw [if_neg (fun y=>y h.inv.G4.check.1),iQ,h.bm]
 have hp : bN w jt=if w.m.now=1000000 then (w,7) else (⟨{ w.m with now:=w.m.now + 1},w.ts⟩,0):=by
  unfold bN
  rw [if_pos (show jt.tick=true from rfl)]
 rw [hdo] at hd ⊢
 have hr2 : (bN w jt).2=0:=Classical.byContradiction fun hn=>by rw [if_pos hn] at hd;exact hn hd
 rw [if_neg (fun y=>y hr2)]
 have h1 : w.m.now≠1000000:=fun e=>by rw [hp,if_pos e] at hr2;cases hr2
 have h2 : bN w jt=(⟨{ w.m with now:=w.m.now + 1},w.ts⟩,0):=by rw [hp,if_neg h1]
 rw [h2]
 refine ⟨rfl,wQ h.inv h1,?_,h.idle⟩
 ·have e : w.ts.map Tsk.bm=w.ts:=congrArg Wrd.ts h.bm
  unfold Wrd.bm
  rw [e]
theorem Dm {a b : Int} (h : (iw a b 1).2=0) : Fz (iw a b 1).1∧(iw a b 1).1.ts.length=1∧((iw a b 1).1.m.heads.length : Int)=b∧aq (iw a b 1).1.m=[]∧(tsk (iw a b 1).1 0).held=[]:=by
 have h1:=ES h
 have h3 : (iw a b 1).1.ts=[idle]∧((iw a b 1).1.m.heads.length : Int)=b∧∀ i,(msl (iw a b 1).1.m i).refs=0:=by
  unfold iw at h ⊢
  split at h
  ·rename_i h4;exact absurd h h4
  ·rename_i h4
   rw [if_neg h4]
   split at h
   ·cases h
   ·rename_i h5
    rw [if_neg h5]
    refine ⟨rfl,?_⟩
    have h4 : (dx a b).2=0:=Classical.not_not.1 h4
    unfold dx at h4 ⊢
    split at h4
    ·cases h4
    ·rename_i h6
     rw [if_neg h6]
     refine ⟨by simp;omega,fun i=>?_⟩
     unfold msl
     show ((List.replicate a.toNat (default : bp)).getD i default).refs=0
     rw [List.getD_eq_getElem?_getD,List.getElem?_replicate]
     split <;> rfl
 obtain ⟨t1,t2,t3⟩:=h3
 generalize (iw a b 1).1=w at *
 have hb : eQ w=false:=by unfold eQ;rw [t1];rfl
 refine ⟨⟨h1,?_,hb⟩,by rw [t1];rfl,t2,?_,by unfold tsk;rw [t1];rfl⟩
 ·show (⟨w.m,w.ts.map Tsk.bm⟩ : Wrd)=w
  obtain ⟨m,ts⟩:=w
  have t1 : ts=[idle]:=t1
  subst t1;rfl
 ·cases e : aq w.m with
  | nil=>rfl
  | cons x l =>
   exfalso
   obtain ⟨q1,q2,q3,q4,q5,q6,q7⟩:=jj h1.ch (f:=x) (by rw [e];simp)
   exact ((h1.ch.ch (b:=(bk w.m x.k).toNat) (by omega)).ok _ q7).refs (t3 _)
end Go.Proofs.Ytpmamacjepcdmaa
