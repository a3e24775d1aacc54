import Derived.Test.YtpmamacjepcdmaaCEnds1
namespace Go.Proofs.Ytpmamacjepcdmaa
open Go Go.Sy Go.RowKit
set_option linter.unusedSimpArgs false
set_option linter.unusedVariables false
structure Alike (m y : Mem) : Prop where
 len : y.slots.length=m.slots.length
 heads : y.heads=m.heads
 now : y.now=m.now
 sl : ∀ j,(msl y j).next=(msl m j).next∧(msl y j).k=(msl m j).k∧(msl y j).inn=(msl m j).inn∧(msl y j).till=(msl m j).till
theorem Alike.same (m : Mem) : Alike m m:=⟨rfl,rfl,rfl,fun _=>⟨rfl,rfl,rfl,rfl⟩⟩
theorem Alike.trans {m y z : Mem} (h : Alike m y) (g : Alike y z) : Alike m z :=
 ⟨g.len.trans h.len,g.heads.trans h.heads,g.now.trans h.now,fun j=>⟨(g.sl j).1.trans (h.sl j).1,(g.sl j).2.1.trans (h.sl j).2.1,(g.sl j).2.2.1.trans (h.sl j).2.2.1,(g.sl j).2.2.2.trans (h.sl j).2.2.2⟩⟩
theorem Alike.refs {m y : Mem} {a d : Int} (a0 : 0≤a) (a1 : a < m.slots.length) (hs : y.slots=m.slots.modify a.toNat (bx d)) (hh : y.heads=m.heads) (hn : y.now=m.now) : Alike m y :=
 ⟨by rw [hs];simp,hh,hn,fun j=>by
  have:=gn hs (by omega) j
  rw [show msl y j=_ from this]
  split
  ·rename_i e;rw [← e];exact ⟨rfl,rfl,rfl,rfl⟩
  ·exact ⟨rfl,rfl,rfl,rfl⟩⟩
theorem Alike.put {m : Mem} {a : Int} (a0 : 0≤a) (a1 : a < m.slots.length) : Alike m (put m a):=by
 by_cases h : (msl m a.toNat).refs=0
 ·have : Go.Proofs.Ytpmamacjepcdmaa.put m a=m:=by unfold Go.Proofs.Ytpmamacjepcdmaa.put;rw [if_pos h]
  rw [this];exact Alike.same m
 ·obtain ⟨u1,u2,u3,u4⟩:=fQ h
  exact Alike.refs a0 a1 u1 u2 u4
structure Good (m y : Mem) : Prop where
 al : Alike m y
 ch : aK y
 few : ∀ j,j < y.slots.length→(msl y j).refs < 1000
def Fin (m : Mem) : Nat→Frm→Prop
 | 0,_=>False
 | n + 1,f=>∀ y,Good m y→(ar y f).1.done=true∨Fin m n (ar y f).1
theorem Fin.step {m : Mem} {n : Nat} {f g : Frm} (he : ∀ y,Good m y→(ar y f).1=g) (h : Fin m n g) : Fin m (n + 1) f:=fun y hy=>by
 rw [he y hy];exact .inr h
theorem uc {m y : Mem} (h : Alike m y) : ∀ (f : Nat) (n : Int),walk y f n=walk m f n
 | 0,_=>rfl
 | f + 1,n=>by
  simp only [walk]
  rw [(h.sl _).1,uc h f]
theorem Ef {m y : Mem} (h : Alike m y) (b : Nat) : chL y b=chL m b:=by
 unfold chL bP cQ walked aO
 rw [h.len,h.heads,uc h]
section
variable {m : Mem} {B : Nat} {f : Frm}
end
end Go.Proofs.Ytpmamacjepcdmaa

namespace Go.Proofs.Ytpmamacjepcdmaa
open Go Go.Sy Go.RowKit
set_option linter.unusedSimpArgs false
set_option linter.unusedVariables false
def goP (k : Nat) : Pik:=⟨k,true,false,⟨0,⟨0,0⟩,0,0,0⟩⟩
def sw (w : Wrd) (k : Nat) : Wrd:=if (tsk w k).busy=true then (bN w (goP k)).1.bm else w
def eg : Nat→Nat→Wrd→Wrd
 | 0,_,w=>w
 | n + 1,k,w=>eg n (k + 1) (sw w k)
def eQ (w : Wrd) : Bool:=w.ts.any fun t=>t.busy
def dB : Nat→Wrd→Wrd
 | 0,w=>w
 | R + 1,w=>if eQ w=true then dB R (eg w.ts.length 0 w) else w
theorem mK {w : Wrd} : eQ w=true↔∃ u : Int,0≤u∧u < w.ts.length∧(tsk w u).busy=true:=by
 unfold eQ
 rw [List.any_eq_true]
 constructor
 ·rintro ⟨t,h1,h2⟩
  obtain ⟨i,i0,i1,rfl⟩:=pf h1
  exact ⟨i,i0,i1,h2⟩
 ·rintro ⟨u,u0,u1,h⟩
  exact ⟨_,Hf u0 u1,h⟩
def xz (m : Mem) (f : Frm) (x : Int) : Frm:=if f.c.kind=1 then (ar m f).1 else if f.c.kind=2 then (G3 m f x).1 else if f.c.kind=3 then (aL m f x).1 else if f.c.kind=4∨f.c.kind=5 then (aB m f x).1 else ay f 0
theorem wY {w : Wrd} {x : Int} (hx0 : 0≤x) (hx : x < w.ts.length) (hb : (tsk w x).busy=true) :
  (∀ u : Int,0≤u→u≠x→tsk (cN w x).1 u=tsk w u)∧(tsk (cN w x).1 x).f=xz w.m (tsk w x).f x∧(tsk (cN w x).1 x).busy=!(xz w.m (tsk w x).f x).done∧(cN w x).2=0∧(cN w x).1.ts.length=w.ts.length:=by
 have key : ∀ (y : Mem) (F : Tsk→Tsk) (g : Frm),(F (tsk w x)).f=g→(F (tsk w x)).busy=!g.done→(∀ u : Int,0≤u→u≠x→tsk ⟨y,w.ts.modify x.toNat F⟩ u=tsk w u)∧(tsk ⟨y,w.ts.modify x.toNat F⟩ x).f=g∧(tsk ⟨y,w.ts.modify x.toNat F⟩ x).busy=!g.done∧(0 : Int)=0∧(Wrd.mk y (w.ts.modify x.toNat F)).ts.length=w.ts.length:=fun y F g h1 h2 =>
  ⟨fun u u0 hne=>by rw [eT hx0 hx u0,if_neg hne],by rw [eT hx0 hx hx0,if_pos rfl];exact h1,by rw [eT hx0 hx hx0,if_pos rfl];exact h2,rfl,by simp⟩
 unfold cN xz
 rw [if_neg (by rw [hb];simp)]
 by_cases k1 : (tsk w x).f.c.kind=1
 ·rw [if_pos k1,if_pos k1]
  split
  ·exact key _ _ _ rfl rfl
  ·exact key _ _ _ rfl rfl
 rw [if_neg k1,if_neg k1]
 by_cases k2 : (tsk w x).f.c.kind=2
 ·rw [if_pos k2,if_pos k2];exact key _ _ _ rfl rfl
 rw [if_neg k2,if_neg k2]
 by_cases k3 : (tsk w x).f.c.kind=3
 ·rw [if_pos k3,if_pos k3];exact key _ _ _ rfl rfl
 rw [if_neg k3,if_neg k3]
 by_cases k4 : (tsk w x).f.c.kind=4∨(tsk w x).f.c.kind=5
 ·rw [if_pos k4,if_pos k4];exact key _ _ _ rfl rfl
 rw [if_neg k4,if_neg k4]
 split
 ·exact key _ _ _ rfl rfl
 ·exact key _ _ _ rfl rfl
theorem rU {w : Wrd} {k : Nat} (hk : k < w.ts.length) : bN w (goP k)=cN w k:=by
 unfold bN goP
 rw [if_neg (by simp),if_neg (by show ¬ ((k : Int) < 0∨(w.ts.length : Int)≤(k : Int));omega),if_pos rfl]
structure SwOk (w v : Wrd) (k : Nat) : Prop where
 m : v.m=(cN w k).1.m
 len : v.ts.length=w.ts.length
 other : ∀ u : Int,0≤u→u < w.ts.length→u≠k→(tsk v u).busy=(tsk w u).busy∧(tsk v u).f=(tsk w u).f∧(tsk v u).held=(tsk w u).held
 f : (tsk v k).f=xz w.m (tsk w k).f k
 busy : (tsk v k).busy=!(xz w.m (tsk w k).f k).done
theorem Ka {w : Wrd} {k : Nat} (hk : k < w.ts.length) (hb : (tsk w k).busy=true) : SwOk w (sw w k) k:=by
 obtain ⟨h1,h2,h3,h4,h5⟩:=wY (w:=w) (x:=k) (by omega) (by omega) hb
 unfold sw
 rw [if_pos hb,rU hk]
 refine ⟨rfl,by rw [kb];exact h5,fun u u0 u1 hne=>?_,?_,?_⟩
 ·rw [Ia u0 (by rw [h5];exact u1),h1 u u0 hne];exact ⟨rfl,rfl,rfl⟩
 ·rw [Ia (by omega) (by rw [h5];omega)];exact h2
 ·rw [Ia (by omega) (by rw [h5];omega)];exact h3
theorem CJ (w : Wrd) (k : Nat) : (sw w k).ts.length=w.ts.length:=by
 unfold sw
 split
 ·rw [kb,sN]
 ·rfl
theorem CK {w : Wrd} (h : Inv w) (k : Nat) : Inv (sw w k):=by
 unfold sw
 split
 ·exact (xg h _).bm
 ·exact h
theorem sF {f : Nat→Nat} {M : Nat} : ∀ {n b : Nat},(∀ i,b≤i→i < b + n→f i≤M)→iX f n b≤n * M
 | 0,_,_=>by simp [iX]
 | n + 1,b,h=>by
  have h1:=h b (Nat.le_refl _) (by omega)
  have h2:=sF (f:=f) (M:=M) (n:=n) (b:=b + 1) fun i p q=>h i (by omega) (by omega)
  simp only [iX,Nat.succ_mul];omega
theorem C3 {w : Wrd} (h : Inv w) : ∀ j,j < w.m.slots.length→(msl w.m j).refs < 1000:=fun j hj=>by
 have h1:=h.rf j hj
 have h2 : fK w.m j≤w.m.heads.length * 1:=sF fun i _ hi=>by
  show (chL w.m i).count (j : Int)≤1
  exact List.nodup_iff_count.1 (h.ch.ch (by omega)).ndl _
 have h3 : ∀ l : List Tsk,(∀ t∈l,t.held.length≤100)→iF j l≤l.length * 101:=fun l=>by
  induction l with
  | nil=>intro _;show (0 : Int)≤_;simp
  | cons t l ih =>
   intro hl
   have k1:=ih fun u hu=>hl u (by simp [hu])
   have k2:=hl t (by simp)
   have k3 : t.held.count (j : Int)≤t.held.length:=List.count_le_length
   simp only [iF,fv,List.length_cons]
   split <;> omega
 have h4:=h3 w.ts fun t ht=>(h.hd t ht).1
 have h5:=h.lo.2
 have h6:=h.ch.mem.nh4
 omega
theorem zL {w : Wrd} (h : Inv w) (hb : eQ w=false) : ∀ b,b < w.m.ae.length→w.m.ae.getD b 0=-1:=fun b hbl=>by
 rcases h.lk b hbl with e | ⟨t0,t1,tb,_⟩
 ·exact e
 ·have:=mK.2 ⟨_,t0,t1,tb⟩
  rw [hb] at this;cases this
end Go.Proofs.Ytpmamacjepcdmaa

namespace Go.Proofs.Ytpmamacjepcdmaa
open Go Go.Sy Go.RowKit
set_option linter.unusedSimpArgs false
set_option linter.unusedVariables false
def s196 : Sig:=⟨[.one (.fz kT),.fn 197],[.one (.bool)]⟩
def d196 : DC:=⟨s196,fun _=>True,fun l=>[.b ((l.getD 0 .u).uH.any fun t=>t.busy)]⟩
theorem tX {ts : List Tsk} {k : Nat} (h : k < ts.length) : ((G2 ts).rows.getD k []).getD 0 .u=.b (ts.getD k default).busy:=dh Tsk.row ts k 0 h
theorem tY {ts : List Tsk} {k : Nat} (h : k < ts.length) : ((ts.take (k + 1)).any fun t=>t.busy)=((ts.take k).any (fun t=>t.busy) || (ts.getD k default).busy):=by
 have e : ts.take (k + 1)=ts.take k ++ [ts.getD k default]:=by
  rw [List.take_succ_eq_append_getElem h,List.getD_eq_getElem?_getD,List.getElem?_eq_getElem h];rfl
 rw [e,List.any_append]
 simp
def l196 : List (Nat × Ct):=[]
noncomputable def z196 : Cx:={ T:=ttA,C:=sigs l196,F:=[(212,Try.f212),(197,Try.f197)],hints:=[⟨212,2,false,[(8,.lt)],[],[],[],0,0,false⟩],sig:=s196}
def t196 : Tree :=
 (.loop 1 [.int .i64] [.int 0]
 (.ite (.lt (.var 2) (.len (.var 0)))
 (.need (.le (.int 0) (.var 2))
 (.ite (.cell (.var 0) (.var 2) 0)
 (.ret [.le (.int 0) (.var 2)])
 (.need (.fit (.add (.var 2) (.int 1)))
 (.back 1 [.add (.var 2) (.int 1)]))))
 (.ret [.bool false])))
theorem run196 : run z196 6000 [.code (Try.f196.body.getD .skip),.fin (bt z196 Try.f196.results.toList 50)] { fn:=196,tmps:=z196.sig.aM ++ List.replicate (Try.f196.ntmps - z196.sig.aM.length) (.v (.one .undef)),stk:=[],h:=z196.sig.h0,nx:=z196.sig.ins.length,known:=[]}=t196:=by kernel_rfl
theorem ok196 : cB Try.prog 196 d196.ct:=by
 refine aD (d:=d196) (Z:=z196) (Γ:=gam l196) (fn:=Try.f196) (c:=Try.f196.body.getD .skip) (bg tok mixed all_nil (dX (c:=Try.f212.body.getD .skip) Try.func212 (by kernel_rfl) (by kernel_rfl) (dX (c:=Try.f197.body.getD .skip) Try.func197 (by kernel_rfl) (by kernel_rfl) bh))) Try.func196 (by kernel_rfl) (by kernel_rfl) rfl run196 fun E hk hp=>?_
 obtain ⟨hk0,_⟩:=hk
 obtain ⟨ts,e0,hts,b0⟩:=hU (d:=E 0) hk0
 have b0 : ts.length * 160≤140737488355328:=b0
 have el : aH E d196.sig.ins.length=[G2 ts]:=by
  show [E 0]=_
  rw [e0]
 rw [el] at hp
 rw [el]
 rw [Env.bJ el]
 clear el e0
 simp only [d196,List.getD_cons_zero,fZ fun t ht=>(hts t ht).1]
 unfold t196
 refine bO (fun ds=>∃ k : Nat,ds=[.i k]∧k≤ts.length∧((ts.take k).any fun t=>t.busy)=false) (fun ds=>ts.length - (ds.getD 0 .u).int.toNat) ⟨0,rfl,by omega,by simp⟩ ?_
 rintro ds - ⟨k,rfl,hk,ha⟩
 refine G0 (fun h=>?_) (fun h=>aj ?_)
 ·simp only [nrm,xdn,reduceIte,Nat.reduceLT,Nat.reduceSub,Nat.reduceAdd,cJ] at h
  have hb:=tX (ts:=ts) (k:=k) (by omega)
  refine ag (by simp only [nrm,xdn,reduceIte,Nat.reduceLT,Nat.reduceSub,Nat.reduceAdd];omega) (G0 (fun h1=>aj ?_) (fun h1=>G1 (by simp only [nrm,xdn,reduceIte,Nat.reduceLT,Nat.reduceSub,Nat.reduceAdd];omega) (aV ⟨⟨k + 1,?_,by omega,?_⟩,?_⟩)))
  ·simp only [nrm,xdn,reduceIte,Nat.reduceLT,Nat.reduceSub,Nat.reduceAdd,Int.toNat_natCast,hb] at h1 ⊢
   have : (ts.any fun t=>t.busy)=true:=List.any_eq_true.2 ⟨_,fc (by omega),h1⟩
   rw [this]
   simp
  ·simp only [nrm,xdn,reduceIte,Nat.reduceLT,Nat.reduceSub,Nat.reduceAdd];rfl
  ·simp only [nrm,xdn,reduceIte,Nat.reduceLT,Nat.reduceSub,Nat.reduceAdd,Int.toNat_natCast,hb] at h1
   rw [tY (by omega),ha]
   simpa using h1
  ·simp only [nrm,xdn,reduceIte,Nat.reduceLT,Nat.reduceSub,Nat.reduceAdd];omega
 ·simp only [nrm,xdn,reduceIte,Nat.reduceLT,Nat.reduceSub,Nat.reduceAdd,cJ] at h
  have e : k=ts.length:=by omega
  rw [e,List.take_length] at ha
  simp only [nrm,xdn,reduceIte,Nat.reduceLT,Nat.reduceSub,Nat.reduceAdd,ha]
theorem qM : ∀ {n k : Nat} {w : Wrd},eQ w=false→k + n≤w.ts.length→eg n k w=w
 | 0,_,_,_,_=>rfl
 | n + 1,k,w,h,hk=>by
  have : sw w k=w:=by
   unfold sw
   rw [if_neg fun hb=>by
    have:=mK.2 ⟨(k : Int),by omega,by omega,hb⟩
    rw [h] at this;cases this]
  show eg n (k + 1) (sw w k)=w
  rw [this]
  exact qM h (by omega)
theorem Am {w : Wrd} (h : w.bm=w) (k : Nat) : (sw w k).bm=sw w k:=by
 unfold sw
 split
 ·simp only [Wrd.bm,List.map_map];rfl
 ·exact h
theorem su (w : Wrd) : G2 w.bm.ts=G2 w.ts:=by
 simp only [G2,Wrd.bm,List.map_map];rfl
def s137 : Sig:=⟨[.agg [.fz kS,.fz kI,.fz kI,.fz kI,.int .i64,.fz kT],.one (.int .i64)],[.agg [.fz kS,.fz kI,.fz kI,.fz kI,.int .i64,.fz kT],.one (.bool)]⟩
def d137 : DC:=⟨s137,fun l=>Inv (Wrd.of l).bm∧(l.getD 6 .u).int≤1000,fun l=>(dB (l.getD 6 .u).int.toNat (Wrd.of l).bm).tM ++ [.b (!eQ (dB (l.getD 6 .u).int.toNat (Wrd.of l).bm))]⟩
def l137 : List (Nat × Ct):=[(140,d140.ct),(196,d196.ct)]
def z137 : Cx:={ T:=ttA,C:=sigs l137,F:=[],hints:=[⟨137,2,false,[(12,.lt)],[(0,0,.fz kS),(0,1,.fz kI),(0,2,.fz kI),(0,3,.fz kI),(0,4,.lt),(0,5,.fz kT)],[],[],0,0,false⟩,⟨137,5,false,[(17,.lt),(6,.lt)],[(0,0,.fz kS),(0,1,.fz kI),(0,2,.fz kI),(0,3,.fz kI),(0,4,.lt),(0,5,.fz kT)],[],[],0,0,false⟩],sig:=s137}
def t137 : Tree :=
 (.loop 7 [.int .i64,.sl 48 [.int .i64,.int .i64,.int .i64,.int .i64,.bool,.int .i64],.sl 8 [.int .i64],.sl 8 [.int .i64],.sl 8 [.int .i64],.int .i64,.sl 160 [.bool,.int .i64,.int .i64,.int .i64,.int .i64,.int .i64,.int .i64,.int .i64,.int .i64,.int .i64,.int .i64,.int .i64,.sl 16 [.int .i64,.int .i64],.bool,.int .i64,.sl 8 [.int .i64]]] [.int 0,.var 0,.var 1,.var 2,.var 3,.var 4,.var 5]
 (.ite (.lt (.var 8) (.var 6))
 (.loop 15 [.bool,.int .i64,.sl 48 [.int .i64,.int .i64,.int .i64,.int .i64,.bool,.int .i64],.sl 8 [.int .i64],.sl 8 [.int .i64],.sl 8 [.int .i64],.int .i64,.sl 160 [.bool,.int .i64,.int .i64,.int .i64,.int .i64,.int .i64,.int .i64,.int .i64,.int .i64,.int .i64,.int .i64,.int .i64,.sl 16 [.int .i64,.int .i64],.bool,.int .i64,.sl 8 [.int .i64]]] [.bool false,.int 0,.var 9,.var 10,.var 11,.var 12,.var 13,.var 14]
 (.ite (.lt (.var 17) (.len (.var 14)))
 (.need (.le (.int 0) (.var 17))
 (.ite (.not (.cell (.var 14) (.var 17) 0))
 (.need (.fit (.add (.var 17) (.int 1)))
 (.back 15 [.var 16,.add (.var 17) (.int 1),.var 18,.var 19,.var 20,.var 21,.var 22,.var 23]))
 (.call 140 [.var 18,.var 19,.var 20,.var 21,.var 22,.var 23,.var 17,.bool true,.bool false,.int 0,.int 0,.int 0,.int 0,.int 0,.int 0] 24
 (.ite (.not (.eq (.var 30) (.int 0)))
 (.ret [.var 18,.var 19,.var 20,.var 21,.var 22,.var 23,.bool false])
 (.need (.fit (.add (.var 17) (.int 1)))
 (.need (.clean (.var 29) 15)
 (.back 15 [.bool true,.add (.var 17) (.int 1),.var 24,.var 25,.var 26,.var 27,.var 28,.shuts (.var 29) 15])))))))
 (.ite (.not (.var 16))
 (.ret [.var 18,.var 19,.var 20,.var 21,.var 22,.var 23,.bool true])
 (.need (.fit (.add (.var 8) (.int 1)))
 (.back 7 [.add (.var 8) (.int 1),.var 18,.var 19,.var 20,.var 21,.var 22,.var 23])))))
 (.call 196 [.var 14] 15
 (.ret [.var 9,.var 10,.var 11,.var 12,.var 13,.var 14,.not (.var 15)]))))
theorem run137 : run z137 6000 [.code (Try.f137.body.getD .skip),.fin (bt z137 Try.f137.results.toList 50)] { fn:=137,tmps:=z137.sig.aM ++ List.replicate (Try.f137.ntmps - z137.sig.aM.length) (.v (.one .undef)),stk:=[],h:=z137.sig.h0,nx:=z137.sig.ins.length,known:=[]}=t137:=by kernel_rfl
set_option maxHeartbeats 4000000 in
theorem ok137 : cB Try.prog 137 d137.ct:=by
 refine aD (d:=d137) (Z:=z137) (Γ:=gam l137) (fn:=Try.f137) (c:=Try.f137.body.getD .skip) (bg tok mixed (all_cons ok140 (all_cons ok196 all_nil)) bh) Try.func137 (by kernel_rfl) (by kernel_rfl) rfl run137 fun E hk hp=>?_
 obtain ⟨hk0,hk1,hk2,hk3,hk4,hk5,hk6,_⟩:=hk
 obtain ⟨m,e0,e1,e2,e3,e4,b0,b1,b2,b3⟩:=cv (d0:=E 0) (d1:=E 1) (d2:=E 2) (d3:=E 3) (d4:=E 4) hk0 hk1 hk2 hk3 hk4
 obtain ⟨ts,e5,hts,b5⟩:=hU (d:=E 5) hk5
 have b5 : ts.length * 160≤140737488355328:=b5
 obtain ⟨x,e6⟩:=ok_int (d:=E 6) hk6
 have el : aH E d137.sig.ins.length=[au m.slots,af m.heads,af m.free,af m.ae,.i m.now,G2 ts,.i x]:=by
  show [E 0,E 1,E 2,E 3,E 4,E 5,E 6]=_
  rw [e0,e1,e2,e3,e4,e5,e6]
 rw [el] at hp
 rw [el]
 rw [Env.bJ el]
 clear el e0 e1 e2 e3 e4 e5 e6
 have hlm : Wrd.bm (Wrd.G4 ⟨m,ts⟩)=Wrd.bm ⟨m,ts⟩:=iQ ⟨m,ts⟩
 simp only [d137,fY,aA,hlm,List.getD_cons_zero,List.getD_cons_succ,CD.aR] at hp ⊢
 obtain ⟨W,hW⟩ : ∃ W,Wrd.bm ⟨m,ts⟩=W:=⟨_,rfl⟩
 rw [hW] at hp ⊢
 obtain ⟨hp,hx⟩:=hp
 have hWm : W.bm=W:=by rw [← hW];simp only [Wrd.bm,List.map_map];rfl
 have eW : W.m=m∧G2 W.ts=G2 ts:=by rw [← hW];exact ⟨rfl,su ⟨m,ts⟩⟩
 unfold t137
 refine bO (fun ds=>∃ (i : Nat) (v : Wrd),ds=[.i i,au v.m.slots,af v.m.heads,af v.m.free,af v.m.ae,.i v.m.now,G2 v.ts]∧Inv v∧v.bm=v∧i≤x.toNat∧dB x.toNat W=dB (x.toNat - i) v) (fun ds=>x.toNat - (ds.getD 0 .u).int.toNat) ⟨0,W,?_,hp,hWm,by omega,rfl⟩ ?_
 ·rw [eW.1,eW.2]
  simp only [nrm,xdn,reduceIte,Nat.reduceLT,Nat.reduceSub,Nat.reduceAdd];rfl
 rintro ds - ⟨i,v,rfl,hv,hvm,hi,he⟩
 have hl5:=hv.lo.2
 rw [he]
 refine G0 (fun h=>?_) (fun h=>?_)
 ·simp only [nrm,xdn,reduceIte,Nat.reduceLT,Nat.reduceSub,Nat.reduceAdd] at h
  refine bO (fun ds=>∃ (k : Nat) (u : Wrd),ds=[.b ((v.ts.take k).any fun t=>t.busy),.i k,au u.m.slots,af u.m.heads,af u.m.free,af u.m.ae,.i u.m.now,G2 u.ts]∧Inv u∧u.bm=u∧k≤v.ts.length∧u.ts.length=v.ts.length∧eg v.ts.length 0 v=eg (v.ts.length - k) k u∧∀ j : Nat,k≤j→j < v.ts.length→(tsk u j).busy=(tsk v j).busy)
   (fun ds=>v.ts.length - (ds.getD 1 .u).int.toNat) ⟨0,v,?_,hv,hvm,by omega,rfl,rfl,fun _ _ _=>rfl⟩ ?_
  ·simp only [nrm,xdn,reduceIte,Nat.reduceLT,Nat.reduceSub,Nat.reduceAdd,List.take_zero,List.any_nil];rfl
  rintro ds - ⟨k,u,rfl,hu,hum,hk,hul,hs,hb⟩
  refine G0 (fun h1=>?_) (fun h1=>?_)
  ·simp only [nrm,xdn,reduceIte,Nat.reduceLT,Nat.reduceSub,Nat.reduceAdd,cJ] at h1
   have hbk:=tX (ts:=v.ts) (k:=k) (by omega)
   have hs1 : eg (v.ts.length - k) k u=eg (v.ts.length - (k + 1)) (k + 1) (sw u k):=by
    rw [show v.ts.length - k=(v.ts.length - (k + 1)) + 1 by omega];rfl
   have ebk : (tsk u k).busy=(v.ts.getD k default).busy:=by
    rw [hb k (Nat.le_refl _) (by omega)]
    unfold tsk
    rw [Int.toNat_natCast]
   refine ag (by simp only [nrm,xdn,reduceIte,Nat.reduceLT,Nat.reduceSub,Nat.reduceAdd];omega) (G0 (fun h2=>?_) (fun h2=>?_))
   ·simp only [nrm,xdn,reduceIte,Nat.reduceLT,Nat.reduceSub,Nat.reduceAdd,Int.toNat_natCast,hbk] at h2
    have h2 : (v.ts.getD k default).busy=false:=by simpa using h2
    have hse : sw u k=u:=by unfold sw;rw [if_neg (by rw [ebk,h2];simp)]
    rw [hse] at hs1
    refine G1 (by simp only [nrm,xdn,reduceIte,Nat.reduceLT,Nat.reduceSub,Nat.reduceAdd];omega) (aV ⟨⟨k + 1,u,?_,hu,hum,by omega,hul,hs.trans hs1,fun j p q=>hb j (by omega) q⟩,?_⟩)
    ·simp only [nrm,xdn,reduceIte,Nat.reduceLT,Nat.reduceSub,Nat.reduceAdd]
     rw [tY (by omega),h2,Bool.or_false];rfl
    ·simp only [nrm,xdn,reduceIte,Nat.reduceLT,Nat.reduceSub,Nat.reduceAdd];omega
   ·simp only [nrm,xdn,reduceIte,Nat.reduceLT,Nat.reduceSub,Nat.reduceAdd,Int.toNat_natCast,hbk] at h2
    have h2 : (v.ts.getD k default).busy=true:=by simpa using h2
    have hub : (tsk u k).busy=true:=by rw [ebk];exact h2
    have huk : k < u.ts.length:=by omega
    have hse : sw u k=(bN u (goP k)).1.bm:=by unfold sw;rw [if_pos hub]
    obtain ⟨o1,o2,o3,o4,o5⟩:=Ka huk hub
    have hdo : doW u.G4 (goP k)=((bN u (goP k)).1,0):=by
     have e2 : (bN u (goP k)).2=0:=by rw [rU huk];exact (wY (by omega) (by omega) hub).2.2.2.1
     unfold doW
     rw [if_neg (fun y=>y hu.G4.check.1),iQ,hum,if_neg (fun y=>y e2)]
    obtain ⟨z,hz⟩ : ∃ z,(bN u (goP k)).1=z:=⟨_,rfl⟩
    rw [hz] at hdo hse
    have hmem : (sw u k).m=z.m:=by rw [hse];rfl
    refine ai d140 [au z.m.slots,af z.m.heads,af z.m.free,af z.m.ae,.i z.m.now,az z.ts,.i 0] rfl trivial ?_ (G0 (fun hn=>?_) (fun _=>?_))
    ·simp only [nrm,xdn,reduceIte,Nat.reduceLT,Nat.reduceSub,Nat.reduceAdd,d140,fY,aA,List.drop_succ_cons,List.drop_zero,oe,cz]
     show (doW u.G4 (goP k)).1.cds ++ [.i (doW u.G4 (goP k)).2]=_
     rw [hdo];rfl
    ·simp only [nrm,xdn,reduceIte,Nat.reduceLT,Nat.reduceSub,Nat.reduceAdd] at hn
     simp at hn
    ·refine G1 (by simp only [nrm,xdn,reduceIte,Nat.reduceLT,Nat.reduceSub,Nat.reduceAdd];omega) (ag (by simp only [nrm,xdn,reduceIte,Nat.reduceLT,Nat.reduceSub,Nat.reduceAdd];exact aI _) (aV ⟨⟨k + 1,sw u k,?_,CK hu k,Am hum k,by omega,by rw [o2];exact hul,hs.trans hs1,fun j p q=>?_⟩,?_⟩))
     ·simp only [nrm,xdn,reduceIte,Nat.reduceLT,Nat.reduceSub,Nat.reduceAdd,cg]
      rw [tY (by omega),h2,Bool.or_true,hmem,show G2 (sw u k).ts=G2 z.ts by rw [hse];exact su z];rfl
     ·rw [(o3 j (by omega) (by omega) (by omega)).1];exact hb j (by omega) q
     ·simp only [nrm,xdn,reduceIte,Nat.reduceLT,Nat.reduceSub,Nat.reduceAdd];omega
  ·simp only [nrm,xdn,reduceIte,Nat.reduceLT,Nat.reduceSub,Nat.reduceAdd,cJ] at h1
   have ek : k=v.ts.length:=by omega
   subst ek
   rw [Nat.sub_self] at hs
   have hs : eg v.ts.length 0 v=u:=hs
   have hR : x.toNat - i=(x.toNat - (i + 1)) + 1:=by omega
   refine G0 (fun h2=>aj ?_) (fun h2=>?_)
   ·simp only [nrm,xdn,reduceIte,Nat.reduceLT,Nat.reduceSub,Nat.reduceAdd,List.take_length] at h2 ⊢
    have h2 : eQ v=false:=by unfold eQ;simpa using h2
    have huv : u=v:=by rw [← hs];exact qM h2 (by omega)
    have hend : dB (x.toNat - i) v=v:=by rw [hR,dB,if_neg (by rw [h2];simp)]
    rw [hend,huv,h2];rfl
   ·simp only [nrm,xdn,reduceIte,Nat.reduceLT,Nat.reduceSub,Nat.reduceAdd,List.take_length] at h2
    have h2 : eQ v=true:=by unfold eQ;simpa using h2
    refine G1 (by simp only [nrm,xdn,reduceIte,Nat.reduceLT,Nat.reduceSub,Nat.reduceAdd];omega) (fj (by decide) ⟨⟨i + 1,u,?_,hu,hum,by omega,?_⟩,?_⟩)
    ·simp only [nrm,xdn,reduceIte,Nat.reduceLT,Nat.reduceSub,Nat.reduceAdd];rfl
    ·rw [hR,dB,if_pos h2,hs]
    ·simp only [nrm,xdn,reduceIte,Nat.reduceLT,Nat.reduceSub,Nat.reduceAdd];omega
 ·simp only [nrm,xdn,reduceIte,Nat.reduceLT,Nat.reduceSub,Nat.reduceAdd] at h
  have e0 : x.toNat - i=0:=by omega
  rw [e0]
  show Tree.den _ (fun outs=>outs=v.tM ++ [.b (!eQ v)]) _ _ _
  refine ai d196 [.b (eQ v)] rfl trivial ?_ (aj ?_)
  ·simp only [nrm,xdn,reduceIte,Nat.reduceLT,Nat.reduceSub,Nat.reduceAdd,d196]
   rw [ju,jH]
   unfold eQ
   rw [List.any_map];rfl
  ·simp only [nrm,xdn,reduceIte,Nat.reduceLT,Nat.reduceSub,Nat.reduceAdd];rfl
end Go.Proofs.Ytpmamacjepcdmaa
