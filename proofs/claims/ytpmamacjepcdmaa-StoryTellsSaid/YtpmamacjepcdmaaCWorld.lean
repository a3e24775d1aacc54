import Derived.Test.YtpmamacjepcdmaaCChain2
import Derived.Test.YtpmamacjepcdmaaCRef2
namespace Go.Proofs.Ytpmamacjepcdmaa
open Go Go.Sy Go.RowKit
set_option linter.unusedSimpArgs false
set_option linter.unusedVariables false
def jc (n : Int) (s : bp) : bp:={ s with inn:=true,next:=n}
def og (n : Int) (s : bp) : bp:={ s with next:=n}
def link (m : Mem) (a b : Int) : Mem:={ m with slots:=m.slots.modify a.toNat (jc (aO m b)),heads:=m.heads.set b.toNat (a + 1)}
def cut (m : Mem) (prev a b : Int) : Mem :=
 if 0 < prev then { m with slots:=m.slots.modify (prev - 1).toNat (og (msl m a.toNat).next)} else { m with heads:=m.heads.set b.toNat (msl m a.toNat).next}
def bk (m : Mem) (k : Key) : Int:=(aY k m.heads.length).1
theorem vr {k : Key} {n : Int} (hk : Key.Ok k) (h1 : 1≤n) (h2 : n≤4) : 0≤(aY k n).1∧(aY k n).1 < n∧(aY k n).2=0:=by
 have hb:=uQ hk.1 hk.2.1 hk.2.2.1 hk.2.2.2
 obtain ⟨k1,k2,k3,k4⟩:=id hk
 unfold aY
 rw [if_pos hk,if_neg (by omega)]
 exact ⟨Int.tmod_nonneg _ (by omega),Int.tmod_lt_of_pos _ (by omega),rfl⟩
theorem oL {m : Mem} (hm : bB m) (b : Int) : (bP m b).1.length≤m.slots.length∧∀ a∈(bP m b).1,0≤a∧a < m.slots.length:=by
 unfold bP
 cases hc : cQ m b with
 | none=>exact ⟨by simp,fun _ h=>by cases h⟩
 | some l=>exact rm hm hc
def E3 (m : Mem) (a : Int) (k : Int) : Bool:=decide (k=a∨(msl m k.toNat).k=(msl m a.toNat).k)
def linked (m : Mem) (a : Int) : Mem × Int :=
 if bU m≠0 then (Mem.none,bU m) else if a < 0∨m.slots.length≤a then (Mem.none,5) else if (msl m a.toNat).refs=0 then (Mem.none,8)
 else if (bP m (bk m (msl m a.toNat).k)).1.any (E3 m a)=true then (Mem.none,6) else (link m a (bk m (msl m a.toNat).k),0)
def Bg (m : Mem) (k : Key) (b : Int) : List Int→Int→Mem × Int × Int
 | [],_=>(Mem.none,0,5)
 | a :: l,prev=>if (msl m a.toNat).k=k then (cut m prev a b,a,0) else Bg m k b l (a + 1)
def EA (m : Mem) (k : Key) : Mem × Int × Int :=
 if bU m≠0 then (Mem.none,0,bU m) else if (aY k m.heads.length).2≠0 then (Mem.none,0,(aY k m.heads.length).2) else Bg m k (bk m k) (bP m (bk m k)).1 0
def bu (m : Mem) (a : Int) : cI:=⟨(msl m a.toNat).k,a,(msl m a.toNat).till⟩
def bC (m : Mem) : Nat→Nat→List cI→List cI
 | 0,_,acc=>acc
 | n + 1,b,acc=>bC m n (b + 1) (acc ++ (bP m b).1.map (bu m))
def aq (m : Mem) : List cI:=bC m m.heads.length 0 []
def jM (m : Mem) : List cI × Int:=if bU m≠0 then ([],bU m) else (aq m,0)
theorem I8 {m : Mem} : ∀ (n b : Nat) (ks : List Key),dk m n b ks=0→∀ i,b≤i→i < b + n→∃ l,cQ m i=some l
 | 0,_,_,_,i,h1,h2=>by omega
 | n + 1,b,ks,h,i,h1,h2=>by
  cases hc : cQ m b with
  | none=>rw [mF hc] at h;cases h
  | some l =>
   rw [mE hc] at h
   split at h
   ·rename_i hx;exact absurd h hx
   ·rcases Nat.lt_or_ge b i with hl | hg
    ·exact I8 n (b + 1) _ h i (by omega) (by omega)
    ·have : i=b:=by omega
     subst this
     exact ⟨l,hc⟩
theorem rM {m : Mem} (h : bU m=0) : bB m:=by
 unfold bU at h
 split at h
 ·rename_i hx;exact absurd h hx
 ·rename_i hx;exact (dT m).1 (Classical.not_not.1 hx)
theorem JO {m : Mem} (h : bU m=0) {b : Nat} (hb : b < m.heads.length) : ∃ l,cQ m b=some l:=by
 have hm:=rM h
 unfold bU at h
 rw [if_neg (fun hx=>hx ((dT m).2 hm))] at h
 exact I8 _ _ _ h b (by omega) (by omega)
theorem H8 {m : Mem} {b : Int} {l : List Int} (h : cQ m b=some l) : (Hn m b)=(l,true)∧bP m b=(l,0):=by
 refine ⟨?_,by unfold bP;rw [h]⟩
 have:=mG h
 unfold Hn
 rw [this]
 simp
def s176 : Sig:=⟨[.ptr [.own 52 kS,.own 3 kI,.own 3 kI,.own 3 kI,.int .i64],.one (.int .i64),.one (.int .i64)],[]⟩
def d176 : DC:=⟨s176,fun l=>0≤(l.getD 5 .u).int∧(l.getD 5 .u).int < (Mem.of l).slots.length∧0≤(l.getD 6 .u).int∧(l.getD 6 .u).int < (Mem.of l).heads.length,fun l=>(link (Mem.of l) (l.getD 5 .u).int (l.getD 6 .u).int).cds⟩
theorem fn176 (m : Mem) (a b : Int) : d176.fn [au m.slots,af m.heads,af m.free,af m.locks,.i m.now,.i a,.i b]=(link m a b).cds:=by simp only [d176,mem_of,aA,List.getD_cons_zero,List.getD_cons_succ,CD.aR]
def l176 : List (Nat × Ct):=[]
def z176 : Cx:={ T:=ttA,C:=sigs l176,F:=[],hints:=[],sig:=s176}
def t176 : Tree :=
 (.need (.le (.int 0) (.var 6))
 (.need (.lt (.var 6) (.len (.var 1)))
 (.need (.le (.int 0) (.var 5))
 (.need (.lt (.var 5) (.len (.var 0)))
 (.need (.fit (.add (.var 5) (.int 1)))
 (.ret [.set (.set (.var 0) (.var 5) 5 (.cell (.var 1) (.var 6) 0)) (.var 5) 4 (.bool true),.set (.var 1) (.var 6) 0 (.add (.var 5) (.int 1)),.var 2,.var 3,.var 4]))))))
theorem run176 : run z176 6000 [.code (Try.f176.body.getD .skip),.fin (bt z176 Try.f176.results.toList 50)] { fn:=176,tmps:=z176.sig.aM ++ List.replicate (Try.f176.ntmps - z176.sig.aM.length) (.v (.one .undef)),stk:=[],h:=z176.sig.h0,nx:=z176.sig.ins.length,known:=[]}=t176:=by kernel_rfl
theorem ok176 : cB Try.prog 176 d176.ct:=by
 refine aD (d:=d176) (Z:=z176) (Γ:=gam l176) (fn:=Try.f176) (c:=Try.f176.body.getD .skip) (bg tok mixed all_nil bh) Try.func176 (by kernel_rfl) (by kernel_rfl) rfl run176 fun E hk hp=>?_
 obtain ⟨hk0,hk1,hk2,hk3,hk4,hk5,hk6,_⟩:=hk
 obtain ⟨m,e0,e1,e2,e3,e4,b0,b1,b2,b3⟩:=cv (d0:=E 0) (d1:=E 1) (d2:=E 2) (d3:=E 3) (d4:=E 4) hk0 hk1 hk2 hk3 hk4
 obtain ⟨x,e5⟩:=ok_int (d:=E 5) hk5
 obtain ⟨x2,e6⟩:=ok_int (d:=E 6) hk6
 have el : aH E d176.sig.ins.length=[au m.slots,af m.heads,af m.free,af m.locks,.i m.now,.i x,.i x2]:=by
  show [E 0,E 1,E 2,E 3,E 4,E 5,E 6]=_
  rw [e0,e1,e2,e3,e4,e5,e6]
 rw [el] at hp
 rw [el]
 rw [Env.bJ el]
 clear el e0 e1 e2 e3 e4 e5 e6
 rw [fn176]
 simp only [d176,mem_of,aA,List.getD_cons_zero,List.getD_cons_succ,CD.aR] at hp
 obtain ⟨h1,h2,h3,h4⟩:=hp
 unfold t176
 refine ag (by simp only [nrm,xdn,reduceIte,Nat.reduceLT,Nat.reduceSub,Nat.reduceAdd];omega) (ag (by simp only [nrm,xdn,reduceIte,Nat.reduceLT,Nat.reduceSub,Nat.reduceAdd,aw];omega) (ag (by simp only [nrm,xdn,reduceIte,Nat.reduceLT,Nat.reduceSub,Nat.reduceAdd];omega) (ag (by simp only [nrm,xdn,reduceIte,Nat.reduceLT,Nat.reduceSub,Nat.reduceAdd,aN];omega) (G1 (by simp only [nrm,xdn,reduceIte,Nat.reduceLT,Nat.reduceSub,Nat.reduceAdd];omega) (aj ?_)))))
 simp only [nrm,xdn,reduceIte,Nat.reduceLT,Nat.reduceSub,Nat.reduceAdd,iK (show x2.toNat < m.heads.length by omega),CV,CW,iG,aC,Mem.cds]
 rfl
def s177 : Sig:=⟨[.ptr [.own 52 kS,.own 3 kI,.own 3 kI,.own 3 kI,.int .i64],.one (.int .i64),.one (.int .i64),.one (.int .i64)],[]⟩
def d177 : DC:=⟨s177,fun l=>(l.getD 5 .u).int≤(Mem.of l).slots.length∧0≤(l.getD 6 .u).int∧(l.getD 6 .u).int < (Mem.of l).slots.length∧0≤(l.getD 7 .u).int∧(l.getD 7 .u).int < (Mem.of l).heads.length,fun l=>(cut (Mem.of l) (l.getD 5 .u).int (l.getD 6 .u).int (l.getD 7 .u).int).cds⟩
theorem fn177 (m : Mem) (p a b : Int) : d177.fn [au m.slots,af m.heads,af m.free,af m.locks,.i m.now,.i p,.i a,.i b]=(cut m p a b).cds:=by simp only [d177,mem_of,aA,List.getD_cons_zero,List.getD_cons_succ,CD.aR]
theorem pre177 {m : Mem} {p a b : Int} (h1 : p≤m.slots.length) (h2 : 0≤a) (h3 : a < m.slots.length) (h4 : 0≤b) (h5 : b < m.heads.length) : d177.pre [au m.slots,af m.heads,af m.free,af m.locks,.i m.now,.i p,.i a,.i b]:=by
 simp only [d177,mem_of,aA,List.getD_cons_zero,List.getD_cons_succ,CD.aR]
 exact ⟨h1,h2,h3,h4,h5⟩
def l177 : List (Nat × Ct):=[]
def z177 : Cx:={ T:=ttA,C:=sigs l177,F:=[],hints:=[],sig:=s177}
def t177 : Tree :=
 (.ite (.lt (.int 0) (.var 5))
 (.need (.fit (.sub (.var 5) (.int 1)))
 (.need (.le (.int 0) (.var 6))
 (.need (.lt (.var 6) (.len (.var 0)))
 (.need (.le (.int 0) (.sub (.var 5) (.int 1)))
 (.need (.lt (.sub (.var 5) (.int 1)) (.len (.var 0)))
 (.ret [.set (.var 0) (.sub (.var 5) (.int 1)) 5 (.cell (.var 0) (.var 6) 5),.var 1,.var 2,.var 3,.var 4]))))))
 (.need (.le (.int 0) (.var 6))
 (.need (.lt (.var 6) (.len (.var 0)))
 (.need (.le (.int 0) (.var 7))
 (.need (.lt (.var 7) (.len (.var 1)))
 (.ret [.var 0,.set (.var 1) (.var 7) 0 (.cell (.var 0) (.var 6) 5),.var 2,.var 3,.var 4]))))))
theorem run177 : run z177 6000 [.code (Try.f177.body.getD .skip),.fin (bt z177 Try.f177.results.toList 50)] { fn:=177,tmps:=z177.sig.aM ++ List.replicate (Try.f177.ntmps - z177.sig.aM.length) (.v (.one .undef)),stk:=[],h:=z177.sig.h0,nx:=z177.sig.ins.length,known:=[]}=t177:=by kernel_rfl
theorem ok177 : cB Try.prog 177 d177.ct:=by
 refine aD (d:=d177) (Z:=z177) (Γ:=gam l177) (fn:=Try.f177) (c:=Try.f177.body.getD .skip) (bg tok mixed all_nil bh) Try.func177 (by kernel_rfl) (by kernel_rfl) rfl run177 fun E hk hp=>?_
 obtain ⟨hk0,hk1,hk2,hk3,hk4,hk5,hk6,hk7,_⟩:=hk
 obtain ⟨m,e0,e1,e2,e3,e4,b0,b1,b2,b3⟩:=cv (d0:=E 0) (d1:=E 1) (d2:=E 2) (d3:=E 3) (d4:=E 4) hk0 hk1 hk2 hk3 hk4
 obtain ⟨x,e5⟩:=ok_int (d:=E 5) hk5
 obtain ⟨x2,e6⟩:=ok_int (d:=E 6) hk6
 obtain ⟨x3,e7⟩:=ok_int (d:=E 7) hk7
 have el : aH E d177.sig.ins.length=[au m.slots,af m.heads,af m.free,af m.locks,.i m.now,.i x,.i x2,.i x3]:=by
  show [E 0,E 1,E 2,E 3,E 4,E 5,E 6,E 7]=_
  rw [e0,e1,e2,e3,e4,e5,e6,e7]
 rw [el] at hp
 rw [el]
 rw [Env.bJ el]
 clear el e0 e1 e2 e3 e4 e5 e6 e7
 rw [fn177]
 simp only [d177,mem_of,aA,List.getD_cons_zero,List.getD_cons_succ,CD.aR] at hp
 obtain ⟨h1,h2,h3,h4,h5⟩:=hp
 have hn : ((au m.slots).rows.getD x2.toNat []).getD 5 .u=.i (msl m x2.toNat).next:=qa (by omega)
 unfold cut
 unfold t177
 refine G0 (fun h=>?_) (fun h=>?_)
 ·simp only [nrm,xdn,reduceIte,Nat.reduceLT,Nat.reduceSub,Nat.reduceAdd] at h
  rw [if_pos h]
  refine G1 (by simp only [nrm,xdn,reduceIte,Nat.reduceLT,Nat.reduceSub,Nat.reduceAdd];omega) (ag (by simp only [nrm,xdn,reduceIte,Nat.reduceLT,Nat.reduceSub,Nat.reduceAdd];omega) (ag (by simp only [nrm,xdn,reduceIte,Nat.reduceLT,Nat.reduceSub,Nat.reduceAdd,aN];omega) (ag (by simp only [nrm,xdn,reduceIte,Nat.reduceLT,Nat.reduceSub,Nat.reduceAdd];omega) (ag (by simp only [nrm,xdn,reduceIte,Nat.reduceLT,Nat.reduceSub,Nat.reduceAdd,aN];omega) (aj ?_)))))
  simp only [nrm,xdn,reduceIte,Nat.reduceLT,Nat.reduceSub,Nat.reduceAdd,hn,CV,Mem.cds]
  rfl
 ·simp only [nrm,xdn,reduceIte,Nat.reduceLT,Nat.reduceSub,Nat.reduceAdd] at h
  rw [if_neg h]
  refine ag (by simp only [nrm,xdn,reduceIte,Nat.reduceLT,Nat.reduceSub,Nat.reduceAdd];omega) (ag (by simp only [nrm,xdn,reduceIte,Nat.reduceLT,Nat.reduceSub,Nat.reduceAdd,aN];omega) (ag (by simp only [nrm,xdn,reduceIte,Nat.reduceLT,Nat.reduceSub,Nat.reduceAdd];omega) (ag (by simp only [nrm,xdn,reduceIte,Nat.reduceLT,Nat.reduceSub,Nat.reduceAdd,aw];omega) (aj ?_))))
  simp only [nrm,xdn,reduceIte,Nat.reduceLT,Nat.reduceSub,Nat.reduceAdd,hn,iG,Mem.cds]
end Go.Proofs.Ytpmamacjepcdmaa

namespace Go.Proofs.Ytpmamacjepcdmaa
open Go Go.Sy Go.RowKit
set_option linter.unusedSimpArgs false
set_option linter.unusedVariables false
structure bV (m : Mem) (f : Frm) : Prop where
 call : bf m f.c=0
 pc0 : 0≤f.pc
 pc9 : f.pc≤9
 n0 : 0≤f.n
 n9 : f.n≤1000000
 nd : f.done=false
 cur0 : -(m.heads.length : Int)≤f.cur
 cur1 : f.cur≤m.slots.length
 prev0 : 0≤f.prev
 prev1 : f.prev≤m.slots.length
 slot0 : -1≤f.slot
 slot1 : f.slot < m.slots.length
 keys : f.keys.length≤100
theorem mD (m : Mem) (f : Frm) : eO m f=0↔bV m f:=by
 unfold eO
 constructor
 ·intro h
  split at h
  ·rename_i h1;exact absurd h h1
  ·rename_i h1
   split at h
   ·cases h
   ·rename_i h2
    split at h
    ·cases h
    ·rename_i h3
     split at h
     ·cases h
     ·rename_i h4
      split at h
      ·cases h
      ·rename_i h5
       exact ⟨Classical.not_not.1 h1,by omega,by omega,by omega,by omega,by simpa using h3,by omega,by omega,by omega,by omega,by omega,by omega,by omega⟩
 ·intro h
  obtain ⟨h1,h2,h3,h4,h5,h6,h7,h8,h9,h10,h11,h12,h13⟩:=h
  rw [if_neg (fun x=>x h1),if_neg (by omega),if_neg (by rw [h6];exact Bool.false_ne_true),if_neg (by omega),if_neg (by omega)]
theorem mH {m : Mem} {c : Cal} (h : bf m c=0) (hk : c.kind=1∨c.kind=2∨c.kind=3) : Key.Ok c.k:=by
 unfold bf at h
 refine (gA c.k).1 ?_
 rcases hk with hk | hk | hk
 ·rwa [if_pos (.inl hk)] at h
 ·rw [if_neg (by omega),if_pos hk] at h
  split at h
  ·cases h
  ·exact h
 ·rwa [if_pos (.inr hk)] at h
theorem nv {m : Mem} {c : Cal} (h : bf m c=0) (hk : c.kind=2) : 1≤c.time∧c.time≤1000000:=by
 unfold bf at h
 rw [if_neg (by omega),if_pos hk] at h
 split at h
 ·cases h
 ·omega
theorem mI {m : Mem} {c : Cal} (h : bf m c=0) (hk : c.kind=4∨c.kind=5) : 0≤c.bucket∧c.bucket < m.heads.length:=by
 unfold bf at h
 rw [if_neg (by omega),if_neg (by omega),if_pos hk] at h
 split at h
 ·cases h
 ·omega
def fix (m : Mem) : Mem:={ m with heads:=List.replicate m.heads.length (-1),locks:=List.replicate m.heads.length (-1)}
structure aZ (m : Mem) : Prop where
 fx : bB (fix m)
 nl : m.locks.length=m.heads.length
 hd : ∀ i,i < m.heads.length→-(m.heads.length : Int)≤m.heads.getD i 0∧m.heads.getD i 0≤m.slots.length
theorem ff (m : Mem) : (fix m).heads.length=m.heads.length:=List.length_replicate
theorem bB.rJ {m : Mem} (h : bB m) : aZ m:=by
 refine ⟨⟨h.ns,by rw [ff];exact h.nh1,by rw [ff];exact h.nh4,by simp [fix],h.ma,h.Ik,by rw [ff];exact h.slot,fun i hi=>?_,h.free,h.nodup,h.leak⟩,h.nl,fun i hi=>⟨(h.head i hi).n1,(h.head i hi).n0⟩⟩
 rw [ff] at hi ⊢
 have hn:=h.nh1
 have e : (List.replicate m.heads.length (-1 : Int)).getD i 0=-1:=by simp [List.getD_eq_getElem?_getD,hi]
 show ug _ _ ((List.replicate m.heads.length (-1 : Int)).getD i 0) ((List.replicate m.heads.length (-1 : Int)).getD i 0)
 rw [e]
 exact ⟨by decide,by omega,by omega,by decide,by decide⟩
theorem aZ.ns {m : Mem} (h : aZ m) : m.slots.length≤12:=h.fx.ns
theorem aZ.nh1 {m : Mem} (h : aZ m) : 1≤m.heads.length:=by have:=h.fx.nh1;rwa [ff] at this
theorem aZ.nh4 {m : Mem} (h : aZ m) : m.heads.length≤4:=by have:=h.fx.nh4;rwa [ff] at this
theorem aZ.ma {m : Mem} (h : aZ m) : 0≤m.now:=h.fx.ma
theorem aZ.Ik {m : Mem} (h : aZ m) : m.now≤1000000:=h.fx.Ik
theorem aZ.nf {m : Mem} (h : aZ m) : m.free.length≤12:=h.fx.nf
theorem aZ.sl {m : Mem} (h : aZ m) {i : Nat} (hi : i < m.slots.length) : mR m.slots.length m.heads.length (msl m i):=by
 have:=h.fx.sl hi
 rwa [ff] at this
theorem aZ.refs {m : Mem} (h : aZ m) {a : Int} (h1 : 0≤a) (h2 : a < m.slots.length) : 0≤(msl m a.toNat).refs∧(msl m a.toNat).refs≤1000:=h.fx.refs h1 h2
theorem qZ {m : Mem} (hm : aZ m) (h : m.free.length≠0) : 0≤bc m∧bc m < m.slots.length:=by
 have:=hm.fx.free (bc m) (pA (by show _ < m.free.length;omega))
 exact ⟨this.1,this.2.1⟩
theorem aQ {m : Mem} (hm : aZ m) {c : Cal} (h : bf m c=0) (hk : 1≤c.kind∧c.kind≤5) : 0≤aa m c∧aa m c < m.heads.length:=by
 unfold aa
 by_cases h4 : c.kind=4∨c.kind=5
 ·rw [if_pos h4];exact mI h h4
 ·rw [if_neg h4]
  have:=vr (mH h (by omega)) (n:=m.heads.length) (by have:=hm.nh1;omega) (by have:=hm.nh4;omega)
  exact ⟨this.1,this.2.1⟩
def lock (m : Mem) (b task : Int) : Mem × Bool:=if m.locks.getD b.toNat 0=-1 then ({ m with locks:=m.locks.set b.toNat task},true) else (m,false)
def unlock (m : Mem) (b task : Int) : Mem:=if m.locks.getD b.toNat 0=task then { m with locks:=m.locks.set b.toNat (-1)} else m
def at1 (m : Mem) (f : Frm) : bp:=msl m (f.cur - 1).toNat
def at2 (m : Mem) (f : Frm) : bp:=msl m f.slot.toNat
def ar (m : Mem) (f : Frm) : Frm × Mem :=
 if f.pc=0 then ({ f with cur:=aO m (aa m f.c),pc:=1},m)
 else if f.pc=1∧0 < f.cur then ({ f with pc:=if (at1 m f).k=f.c.k then 3 else 2},m)
 else if f.pc=1∧f.cur=-1 - aa m f.c then (ay f 5,m)
 else if f.pc=2∧0 < f.cur then ({ f with cur:=(at1 m f).next,pc:=1},m)
 else if f.pc=3∧0 < f.cur then (if (hold m (f.cur - 1)).2=true then ({ f with slot:=f.cur - 1,pc:=4},(hold m (f.cur - 1)).1) else ({ f with pc:=0},m))
 else if f.pc=4∧0≤f.slot then (if (at2 m f).k≠f.c.k∨(at2 m f).inn=false then ({ f with pc:=5},m) else if (at2 m f).till≤m.now then ({ f with pc:=6},m) else (ay f 0,m))
 else if f.pc=5∧0≤f.slot then ({ f with slot:=-1,pc:=0},put m f.slot)
 else if f.pc=6∧0≤f.slot then (ay { f with slot:=-1} 5,put m f.slot)
 else ({ f with pc:=0},m)
def bE (m : Mem) (f : Frm) : Int:=if m.now + f.c.time≤2000000 then m.now + f.c.time else 2000000
def G3 (m : Mem) (f : Frm) (task : Int) : Frm × Mem :=
 if f.pc=0 then
  (if (take m f.c.k (bE m f)).2.2≠0 then (ay f 7,m)
   else ({ f with slot:=(take m f.c.k (bE m f)).2.1,pc:=1},(take m f.c.k (bE m f)).1))
 else if f.pc=1 then ({ f with pc:=if (lock m (aa m f.c) task).2=true then 2 else f.pc},(lock m (aa m f.c) task).1)
 else if f.pc=2 then ({ f with cur:=aO m (aa m f.c),pc:=3},m)
 else if f.pc=3 then ({ f with pc:=if f.cur≤0 then 5 else if (at1 m f).k=f.c.k then 6 else 4},m)
 else if f.pc=4∧0 < f.cur then ({ f with cur:=(at1 m f).next,pc:=3},m)
 else if f.pc=5∧0≤f.slot then ({ f with e:=0,pc:=7},link m f.slot (aa m f.c))
 else if f.pc=6∧0≤f.slot then ({ f with slot:=-1,e:=6,pc:=7},put m f.slot)
 else if f.pc=7 then (ay f f.e,unlock m (aa m f.c) task)
 else ({ f with e:=8,pc:=7},m)
def aL (m : Mem) (f : Frm) (task : Int) : Frm × Mem :=
 if f.pc=0 then ({ f with pc:=if (lock m (aa m f.c) task).2=true then 1 else f.pc},(lock m (aa m f.c) task).1)
 else if f.pc=1 then ({ f with prev:=0,cur:=aO m (aa m f.c),pc:=2},m)
 else if f.pc=2 then (if f.cur≤0 then ({ f with e:=5,pc:=5},m) else ({ f with pc:=if (at1 m f).k=f.c.k then 4 else 3},m))
 else if f.pc=3∧0 < f.cur then ({ f with prev:=f.cur,cur:=(at1 m f).next,pc:=2},m)
 else if f.pc=4∧0 < f.cur then ({ f with slot:=f.cur - 1,e:=0,pc:=5},cut m f.prev (f.cur - 1) (aa m f.c))
 else if f.pc=5 then ({ f with pc:=6},unlock m (aa m f.c) task)
 else if f.pc=6 then (ay { f with slot:=if 0≤f.slot then -1 else f.slot} f.e,if 0≤f.slot then put m f.slot else m)
 else ({ f with e:=8,pc:=5},m)
def aB (m : Mem) (f : Frm) (task : Int) : Frm × Mem :=
 if f.pc=0 then ({ f with pc:=if (lock m (aa m f.c) task).2=true then 1 else f.pc},(lock m (aa m f.c) task).1)
 else if f.pc=1 then ({ f with prev:=0,cur:=aO m (aa m f.c),pc:=2},m)
 else if f.pc=2∧f.cur≤0 then ({ f with pc:=6},m)
 else if f.pc=2∧f.c.kind=5 then ({ f with keys:=if f.keys.length < 100 then f.keys ++ [(at1 m f).k] else f.keys,pc:=3},m)
 else if f.pc=2 then ({ f with pc:=if (at1 m f).till≤m.now then 4 else 3},m)
 else if f.pc=3∧0 < f.cur then ({ f with prev:=f.cur,cur:=(at1 m f).next,pc:=2},m)
 else if f.pc=4∧0 < f.cur then ({ f with slot:=f.cur - 1,cur:=(at1 m f).next,pc:=5},cut m f.prev (f.cur - 1) (aa m f.c))
 else if f.pc=5∧0≤f.slot then ({ f with slot:=-1,n:=if 1000000 < f.n + 1 then 1000000 else f.n + 1,pc:=2},put m f.slot)
 else if f.pc=6 then (ay f 0,unlock m (aa m f.c) task)
 else ({ f with pc:=6},m)
theorem sb {m : Mem} {a : Int} (h : (hold m a).2=false) : (hold m a).1=m:=by
 unfold hold at h ⊢
 split
 ·rfl
 ·rename_i hc;rw [if_neg hc] at h;cases h
theorem rX {m : Mem} {b t : Int} (h : (lock m b t).2=false) : (lock m b t).1=m:=by
 unfold lock at h ⊢
 split
 ·rename_i hc;rw [if_pos hc] at h;cases h
 ·rfl
theorem Aj {m : Mem} {k : Key} {t : Int} (h : (take m k t).2.2≠0) : take m k t=(m,0,7):=by
 unfold take at h ⊢
 split
 ·rfl
 ·rename_i hc;rw [if_neg hc] at h;exact absurd rfl h
theorem AW {j k : Key} (h : ((j.a ==k.a) && ((j.b ==k.b) && true))=true) : j=k:=by
 simp only [Bool.and_true,Bool.and_eq_true,beq_iff_eq] at h
 cases j;cases k;simp only at h;rw [h.1,h.2]
theorem AY {j k : Key} (h : ((j.a ==k.a) && ((j.b ==k.b) && true))=false) : j≠k:=fun e=>by
 rw [e] at h;simp at h
theorem xR (f : Frm) (e : Int) : d44.fn [.i f.c.kind,.i f.c.k.a,.i f.c.k.b,.i f.c.time,.i f.c.bucket,.i f.c.slot,.i f.pc,.i f.cur,.i f.prev,.i f.slot,.i f.n,bS f.keys,.b f.done,.i f.e,.i e]=(ay f e).cds:=by
 simp only [d44,dJ,List.getD_cons_zero,List.getD_cons_succ,CD.aR]
theorem Fa (m : Mem) (c : Cal) : d48.fn [au m.slots,af m.heads,af m.free,af m.locks,.i m.now,.i c.kind,.i c.k.a,.i c.k.b,.i c.time,.i c.bucket,.i c.slot]=[.i (aa m c)]:=by
 simp only [d48,mem_of,aA,List.drop_succ_cons,List.drop_zero,fG,cz]
theorem fs162 (m : Mem) (k : Key) (x : Int) : d162.fn [au m.slots,af m.heads,af m.free,af m.locks,.i m.now,.i k.a,.i k.b,.i x]=(take m k x).1.cds ++ [.i (take m k x).2.1,.i (take m k x).2.2]:=by simp only [d162,mem_of,aA,List.drop_succ_cons,List.drop_zero,jK,eZ,List.getD_cons_zero,List.getD_cons_succ,CD.aR]
theorem fs166 (m : Mem) (x : Int) : d166.fn [au m.slots,af m.heads,af m.free,af m.locks,.i m.now,.i x]=(hold m x).1.cds ++ [.b (hold m x).2]:=by simp only [d166,mem_of,aA,List.getD_cons_zero,List.getD_cons_succ,CD.aR]
theorem A6 (m : Mem) (x : Int) : d167.fn [au m.slots,af m.heads,af m.free,af m.locks,.i m.now,.i x]=(put m x).cds:=by simp only [d167,mem_of,aA,List.getD_cons_zero,List.getD_cons_succ,CD.aR]
theorem pi166 {m : Mem} {x : Int} (hm : aZ m) (h0 : 0≤x) (h1 : x < m.slots.length) : d166.pre [au m.slots,af m.heads,af m.free,af m.locks,.i m.now,.i x]:=by
 simp only [d166,mem_of,aA,List.getD_cons_zero,List.getD_cons_succ,CD.aR]
 exact ⟨h0,h1,(hm.refs h0 h1).1,(hm.refs h0 h1).2⟩
theorem pi67 {m : Mem} {x : Int} (hm : aZ m) (h0 : 0≤x) (h1 : x < m.slots.length) : d67.pre [au m.slots,af m.heads,af m.free,af m.locks,.i m.now,.i x]:=by
 simp only [d67,mem_of,aA,List.getD_cons_zero,List.getD_cons_succ,CD.aR]
 exact ⟨h0,h1,(hm.refs h0 h1).1,(hm.refs h0 h1).2⟩
theorem pi167 {m : Mem} {x : Int} (hm : aZ m) (h0 : 0≤x) (h1 : x < m.slots.length) : d167.pre [au m.slots,af m.heads,af m.free,af m.locks,.i m.now,.i x]:=by
 simp only [d167,mem_of,aA,List.getD_cons_zero,List.getD_cons_succ,CD.aR]
 exact ⟨h0,h1,(hm.refs h0 h1).1,(hm.refs h0 h1).2,by have:=hm.nf;omega⟩
theorem pi68 {m : Mem} {x : Int} (hm : aZ m) (h0 : 0≤x) (h1 : x < m.slots.length) : d68.pre [au m.slots,af m.heads,af m.free,af m.locks,.i m.now,.i x]:=by
 simp only [d68,mem_of,aA,List.getD_cons_zero,List.getD_cons_succ,CD.aR]
 exact ⟨h0,h1,(hm.refs h0 h1).1,(hm.refs h0 h1).2,by have:=hm.nf;omega⟩
theorem CF {m : Mem} (hm : aZ m) : m.free.length=0∨(0≤bc m∧bc m < m.slots.length):=by
 by_cases h : m.free.length=0
 ·exact .inl h
 ·exact .inr (qZ hm h)
theorem pi162 {m : Mem} {k : Key} {x : Int} (hm : aZ m) : d162.pre [au m.slots,af m.heads,af m.free,af m.locks,.i m.now,.i k.a,.i k.b,.i x]:=by
 simp only [d162,mem_of,aA]
 exact CF hm
theorem pi66 {m : Mem} {k : Key} {x : Int} (hm : aZ m) : d66.pre [au m.slots,af m.heads,af m.free,af m.locks,.i m.now,.i k.a,.i k.b,.i x]:=by
 simp only [d66,mem_of,aA]
 exact ⟨by have:=hm.nf;omega,CF hm⟩
end Go.Proofs.Ytpmamacjepcdmaa

namespace Go.Proofs.Ytpmamacjepcdmaa
open Go Go.Sy Go.RowKit
set_option linter.unusedSimpArgs false
set_option linter.unusedVariables false
def kT : SK:=⟨160,[.bool,.int .i64,.int .i64,.int .i64,.int .i64,.int .i64,.int .i64,.int .i64,.int .i64,.int .i64,.int .i64,.int .i64,.sl 16 [.int .i64,.int .i64],.bool,.int .i64,.sl 8 [.int .i64]]⟩
def kTo : SK:=⟨160,[.bool,.int .i64,.int .i64,.int .i64,.int .i64,.int .i64,.int .i64,.int .i64,.int .i64,.int .i64,.int .i64,.int .i64,.sl 16 [.int .i64,.int .i64],.bool,.int .i64,.os 3]⟩
def kQ : SK:=⟨64,[.int .i64,.bool,.bool,.int .i64,.int .i64,.int .i64,.int .i64,.int .i64,.int .i64]⟩
def kP : SK:=⟨120,[.int .i64,.int .i64,.int .i64,.int .i64,.int .i64,.int .i64,.int .i64,.int .i64,.int .i64,.int .i64,.int .i64,.int .i64,.sl 16 [.int .i64,.int .i64]]⟩
structure Tsk where
 busy : Bool
 f : Frm
 held : List Int
 own : Bool
structure Wrd where
 m : Mem
 ts : List Tsk
def Frm.none : Frm:=⟨⟨0,⟨0,0⟩,0,0,0⟩,0,0,0,0,0,[],false,0⟩
instance : Inhabited Tsk:=⟨⟨false,Frm.none,[],false⟩⟩
def Tsk.rw (t : Tsk) (h : CD) : List CD:=[.b t.busy,.i t.f.c.kind,.i t.f.c.k.a,.i t.f.c.k.b,.i t.f.c.time,.i t.f.c.bucket,.i t.f.c.slot,.i t.f.pc,.i t.f.cur,.i t.f.prev,.i t.f.slot,.i t.f.n,bS t.f.keys,.b t.f.done,.i t.f.e,h]
def o8 (l : List Int) : CD:=.o (l.map fun n=>[.i n])
def Tsk.hd (t : Tsk) : CD:=if t.own then o8 t.held else af t.held
def Tsk.row (t : Tsk) : List CD:=t.rw (af t.held)
def Tsk.iv (t : Tsk) : List CD:=t.rw t.hd
def G2 (l : List Tsk) : CD:=.l (l.map Tsk.row)
def az (l : List Tsk) : CD:=.l (l.map Tsk.iv)
def Tsk.of (r : List CD) : Tsk:=⟨(r.getD 0 .u).bool,Frm.of (r.drop 1),(r.getD 15 .u).shut.ints,(r.getD 15 .u).isO⟩
def Tsk.bm (t : Tsk) : Tsk:={ t with own:=true}
def Tsk.G4 (t : Tsk) : Tsk:={ t with own:=false}
end Go.Proofs.Ytpmamacjepcdmaa
def Go.Sy.CD.uH (d : Go.Sy.CD) : List Go.Proofs.Ytpmamacjepcdmaa.Tsk:=d.rows.map Go.Proofs.Ytpmamacjepcdmaa.Tsk.of
namespace Go.Proofs.Ytpmamacjepcdmaa
open Go Go.Sy Go.RowKit
set_option linter.unusedSimpArgs false
set_option linter.unusedVariables false
structure Pik where
 task : Int
 step : Bool
 tick : Bool
 c : Cal
def Pik.of (l : List CD) : Pik:=⟨(l.getD 0 .u).int,(l.getD 1 .u).bool,(l.getD 2 .u).bool,Cal.of (l.drop 3)⟩
def Wrd.of (l : List CD) : Wrd:=⟨Mem.of l,(l.getD 5 .u).uH⟩
def Wrd.cds (w : Wrd) : List CD:=w.m.cds ++ [az w.ts]
def Wrd.bm (w : Wrd) : Wrd:=⟨w.m,w.ts.map Tsk.bm⟩
def Wrd.none : Wrd:=⟨Mem.none,[]⟩
theorem EL (t : Tsk) : Tsk.of t.iv=t:=by
 obtain ⟨b,⟨⟨c1,⟨c2,c3⟩,c4,c5,c6⟩,x1,x2,x3,x4,x5,ks,x6,x7⟩,h,o⟩:=t
 cases o
 ·simp only [Tsk.of,Tsk.iv,Tsk.rw,Tsk.hd,List.drop_succ_cons,List.drop_zero,dJ,List.getD_cons_zero,List.getD_cons_succ,CD.gB,Bool.false_eq_true,if_false]
  exact congrArg (fun x=>Tsk.mk _ _ x _) (bY h)
 ·simp only [Tsk.of,Tsk.iv,Tsk.rw,Tsk.hd,List.drop_succ_cons,List.drop_zero,dJ,List.getD_cons_zero,List.getD_cons_succ,CD.gB,if_true]
  exact congrArg (fun x=>Tsk.mk _ _ x _) (bY h)
theorem jH (l : List Tsk) : (az l).uH=l:=by
 simp only [az,CD.uH,CD.ax,List.map_map]
 rw [show (Tsk.of ∘ Tsk.iv)=id from funext EL,List.map_id]
theorem ju (l : List Tsk) : G2 l=az (l.map Tsk.G4):=by
 simp only [G2,az,List.map_map];rfl
theorem E4 {l : List Tsk} (h : ∀ t∈l,t.own=false) : l.map Tsk.G4=l:=by
 refine (List.map_congr_left fun t ht=>?_).trans (List.map_id l)
 obtain ⟨a,b,c,d⟩:=t
 have : d=false:=h _ ht
 subst this;rfl
theorem kv {l : List Tsk} (h : ∀ t∈l,t.own=false) : G2 l=az l:=by rw [ju,E4 h]
theorem eK (l : List Tsk) : (az l).rows.length=l.length:=by simp [az]
theorem cJ (l : List Tsk) : (G2 l).rows.length=l.length:=by simp [G2]
theorem zX (t : Tsk) : (t.iv.getD 15 .u).isH=false:=by
 show t.hd.isH=false
 unfold Tsk.hd
 split <;> rfl
theorem aI (l : List Tsk) : ((az l).rows.all fun r=>!(r.getD 15 .u).isH)=true:=by
 simp only [az,CD.ax,List.all_eq_true]
 intro r hr
 obtain ⟨t,_,rfl⟩:=List.mem_map.1 hr
 rw [zX];rfl
theorem cO {l : List Tsk} {i : Nat} (o : Nat) (h : i < l.length) : ((az l).rows.getD i []).getD o .u=(l.getD i default).iv.getD o .u:=dh Tsk.iv l i o h
theorem iB {l : List Tsk} {i : Nat} (o : Nat) (h : i < l.length) : ((G2 l).rows.getD i []).getD o .u=(l.getD i default).row.getD o .u:=dh Tsk.row l i o h
theorem BS {rows : List (List CD)} (h : wI rows) : ∃ l : List Int,rows=l.map (fun n=>[CD.i n])∧l.length * 8≤140737488355328:=by
 obtain ⟨l,rfl⟩:=jv (f:=fun n : Int=>[CD.i n]) (fun row hr=>hr) h.2
 exact ⟨l,rfl,by simpa using h.1⟩
def Tsk.Fits (t : Tsk) : Prop:=t.f.keys.length * 16≤140737488355328∧t.held.length * 8≤140737488355328
theorem sJ {α : Type} {f : α→List CD} {R : List CD→Prop} {S : α→Prop} (hR : ∀ row,R row→∃ a,row=f a∧S a) : ∀ {rows : List (List CD)},(∀ row,row∈rows→R row)→∃ l : List α,rows=l.map f∧∀ a∈l,S a
 | [],_=>⟨[],rfl,fun _ h=>by cases h⟩
 | r :: rows,h=>by
  obtain ⟨l,e,hl⟩:=sJ hR fun row hr=>h row (List.mem_cons_of_mem _ hr)
  obtain ⟨a,e',ha⟩:=hR r (h r (by simp))
  exact ⟨a :: l,by rw [e,e'];rfl,fun x hx=>by
   rcases List.mem_cons.1 hx with rfl | hx
   ·exact ha
   ·exact hl x hx⟩
theorem vN {d0 d1 d2 d3 d4 d5 d6 d7 d8 d9 d10 d11 d12 d13 d14 : CD} (h : CD.ok0 .bool d0) (h0 : CD.ok0 (.int .i64) d1) (h1 : CD.ok0 (.int .i64) d2) (h2 : CD.ok0 (.int .i64) d3) (h3 : CD.ok0 (.int .i64) d4) (h4 : CD.ok0 (.int .i64) d5) (h5 : CD.ok0 (.int .i64) d6)
  (h6 : CD.ok0 (.int .i64) d7) (h7 : CD.ok0 (.int .i64) d8) (h8 : CD.ok0 (.int .i64) d9) (h9 : CD.ok0 (.int .i64) d10) (h10 : CD.ok0 (.int .i64) d11) (h11 : CD.ok0 (.sl 16 [.int .i64,.int .i64]) d12) (h12 : CD.ok0 .bool d13) (h13 : CD.ok0 (.int .i64) d14) :
  ∃ (b : Bool) (f : Frm),(∀ (hd : List Int) (o : Bool) (x : CD),[d0,d1,d2,d3,d4,d5,d6,d7,d8,d9,d10,d11,d12,d13,d14,x]=(Tsk.mk b f hd o).rw x)∧f.keys.length * 16≤140737488355328:=by
 obtain ⟨b,rfl⟩:=h
 obtain ⟨f,rfl,rfl,rfl,rfl,rfl,rfl,rfl,rfl,rfl,rfl,rfl,rfl,rfl,rfl,hb⟩:=ja h0 h1 h2 h3 h4 h5 h6 h7 h8 h9 h10 ⟨h11,CD.yi rfl⟩ h12 h13
 exact ⟨b,f,fun _ _ _=>rfl,hb⟩
theorem bG {k : Kd} {ks : List Kd} {row : List CD} (h : CD.ny (k :: ks) row) : ∃ d ds,row=d :: ds∧CD.ok0 k d∧CD.ny ks ds:=by
 cases row with
 | nil=>exact h.elim
 | cons d ds=>exact ⟨d,ds,rfl,h.1,h.2⟩
theorem vT {row : List CD} (h : CD.ny [] row) : row=[]:=by
 cases row with
 | nil=>rfl
 | cons=>exact h.elim
theorem Db {k : Kd} {row : List CD} (h : CD.ny [.bool,.int .i64,.int .i64,.int .i64,.int .i64,.int .i64,.int .i64,.int .i64,.int .i64,.int .i64,.int .i64,.int .i64,.sl 16 [.int .i64,.int .i64],.bool,.int .i64,k] row) :
  ∃ (b : Bool) (f : Frm) (x : CD),(∀ (hd : List Int) (o : Bool),row=(Tsk.mk b f hd o).rw x)∧f.keys.length * 16≤140737488355328∧CD.ok0 k x:=by
 obtain ⟨d0,row,rfl,g0,h⟩:=bG h
 obtain ⟨d1,row,rfl,g1,h⟩:=bG h
 obtain ⟨d2,row,rfl,g2,h⟩:=bG h
 obtain ⟨d3,row,rfl,g3,h⟩:=bG h
 obtain ⟨d4,row,rfl,g4,h⟩:=bG h
 obtain ⟨d5,row,rfl,g5,h⟩:=bG h
 obtain ⟨d6,row,rfl,g6,h⟩:=bG h
 obtain ⟨d7,row,rfl,g7,h⟩:=bG h
 obtain ⟨d8,row,rfl,g8,h⟩:=bG h
 obtain ⟨d9,row,rfl,g9,h⟩:=bG h
 obtain ⟨d10,row,rfl,g10,h⟩:=bG h
 obtain ⟨d11,row,rfl,g11,h⟩:=bG h
 obtain ⟨d12,row,rfl,g12,h⟩:=bG h
 obtain ⟨d13,row,rfl,g13,h⟩:=bG h
 obtain ⟨d14,row,rfl,g14,h⟩:=bG h
 obtain ⟨d15,row,rfl,g15,h⟩:=bG h
 have h:=vT h
 subst h
 obtain ⟨b,f,hf,hk⟩:=vN g0 g1 g2 g3 g4 g5 g6 g7 g8 g9 g10 g11 g12 g13 g14
 exact ⟨b,f,d15,fun hd o=>hf hd o d15,hk,g15⟩
theorem hU {b : Nat} {d : CD} (h : CD.ok (.sl b kT.kd) d) : ∃ l,d=G2 l∧(∀ t∈l,t.own=false∧t.Fits)∧l.length * b≤140737488355328:=by
 obtain ⟨⟨rows,rfl,h1,h2⟩,_⟩:=h
 obtain ⟨l,rfl,hl⟩:=sJ (f:=Tsk.row) (S:=fun t=>t.own=false∧t.Fits) (fun row hr=>by
   obtain ⟨b,f,x,hf,hk,g15⟩:=Db hr
   obtain ⟨hd,rfl,hb⟩:=iL (b:=8) (k:=.i64) ⟨g15,CD.yi rfl⟩
   exact ⟨⟨b,f,hd,false⟩,hf hd false,rfl,hk,hb⟩) h2
 exact ⟨l,rfl,hl,by simpa using h1⟩
theorem qf {b : Nat} {d : CD} (h : CD.ok (.sl b kTo.kd) d) : ∃ l,d=az l∧(∀ t∈l,t.Fits)∧l.length * b≤140737488355328:=by
 obtain ⟨⟨rows,rfl,h1,h2⟩,hc⟩:=h
 have h2 : ∀ row∈rows,CD.ny kTo.kd row∧(row.getD 15 .u).isH=false:=fun row hr=>⟨h2 row hr,hc rows rfl 15 3 rfl row hr⟩
 obtain ⟨l,rfl,hl⟩:=sJ (f:=Tsk.iv) (S:=Tsk.Fits) (fun row hr=>by
   obtain ⟨b,f,x,hf,hk,g15⟩:=Db hr.1
   have gh : x.isH=false:=by
    have:=hr.2
    rw [hf [] false] at this
    exact this
   rcases g15 with ⟨rows,hd,hn⟩ | h
   ·obtain ⟨hd',rfl,hb⟩:=BS hn
    rcases hd with rfl | rfl
    ·exact ⟨⟨b,f,hd',false⟩,hf hd' false,hk,hb⟩
    ·exact ⟨⟨b,f,hd',true⟩,hf hd' true,hk,hb⟩
   ·rw [h] at gh;cases gh) h2
 exact ⟨l,rfl,hl,by simpa using h1⟩
theorem vL {d0 d1 d2 d3 d4 d5 d6 d7 d8 : CD} (h0 : CD.ok (.int .i64) d0) (h1 : CD.ok .bool d1) (h2 : CD.ok .bool d2) (h3 : CD.ok (.int .i64) d3) (h4 : CD.ok (.int .i64) d4) (h5 : CD.ok (.int .i64) d5) (h6 : CD.ok (.int .i64) d6) (h7 : CD.ok (.int .i64) d7) (h8 : CD.ok (.int .i64) d8) :
  ∃ x : Pik,d0=.i x.task∧d1=.b x.step∧d2=.b x.tick∧d3=.i x.c.kind∧d4=.i x.c.k.a∧d5=.i x.c.k.b∧d6=.i x.c.time∧d7=.i x.c.bucket∧d8=.i x.c.slot:=by
 obtain ⟨a,rfl⟩:=ok_int h0
 obtain ⟨b,rfl⟩:=vO h1
 obtain ⟨c,rfl⟩:=vO h2
 obtain ⟨d,rfl,rfl,rfl,rfl,rfl,rfl⟩:=kR h3 h4 h5 h6 h7 h8
 exact ⟨⟨a,b,c,d⟩,rfl,rfl,rfl,rfl,rfl,rfl,rfl,rfl,rfl⟩
theorem fc {l : List Tsk} {i : Nat} (h : i < l.length) : l.getD i default∈l:=by
 rw [List.getD_eq_getElem?_getD,List.getElem?_eq_getElem h]
 exact List.getElem_mem h
def s207 : Sig:=⟨[.one (.fz kT)],[.one (.own 129 kTo)]⟩
def d207 : DC:=⟨s207,fun _=>True,fun l=>[G2 (l.getD 0 .u).uH]⟩
theorem fZ {l : List Tsk} (h : ∀ t∈l,t.own=false) : (G2 l).uH=l:=by rw [kv h,jH]
def l207 : List (Nat × Ct):=[]
def z207 : Cx:={ T:=ttA,C:=sigs l207,F:=[],hints:=[],sig:=s207}
def t207 : Tree :=
 (.ite (.eq (.len (.var 0)) (.int 0))
 (.both
 (.ret [.nil])
 (.need (.le (.len (.var 0)) (.int 879609302220))
 (.need (.clean (.app .nil (.var 0)) 15)
 (.ret [.app .nil (.var 0)]))))
 (.need (.le (.len (.var 0)) (.int 879609302220))
 (.need (.clean (.app .nil (.var 0)) 15)
 (.ret [.app .nil (.var 0)]))))
theorem run207 : run z207 6000 [.code (Try.f207.body.getD .skip),.fin (bt z207 Try.f207.results.toList 50)] { fn:=207,tmps:=z207.sig.aM ++ List.replicate (Try.f207.ntmps - z207.sig.aM.length) (.v (.one .undef)),stk:=[],h:=z207.sig.h0,nx:=z207.sig.ins.length,known:=[]}=t207:=by kernel_rfl
theorem ok207 : cB Try.prog 207 d207.ct:=by
 refine aD (d:=d207) (Z:=z207) (Γ:=gam l207) (fn:=Try.f207) (c:=Try.f207.body.getD .skip) (bg tok mixed all_nil bh) Try.func207 (by kernel_rfl) (by kernel_rfl) rfl run207 fun E hk hp=>?_
 obtain ⟨hk0,_⟩:=hk
 obtain ⟨ts,e0,hts,b0⟩:=hU (d:=E 0) hk0
 have b0 : ts.length * 160≤140737488355328:=b0
 have el : aH E d207.sig.ins.length=[G2 ts]:=by
  show [E 0]=_
  rw [e0]
 rw [el] at hp
 rw [el]
 rw [Env.bJ el]
 clear el e0
 simp only [d207,List.getD_cons_zero,fZ fun t ht=>(hts t ht).1]
 have hA : ∀ J,(Tree.need (.le (.len (.var 0)) (.int 879609302220)) (.need (.clean (.app .nil (.var 0)) 15) (.ret [.app .nil (.var 0)]))).den (gam l207) (fun outs=>outs=[G2 ts]) (Env.pre [G2 ts] E) J:=fun J=>by
  refine ag (by simp only [nrm,xdn,reduceIte,Nat.reduceLT,Nat.reduceSub,Nat.reduceAdd,cJ];omega) (ag ?_ (aj ?_))
  ·simp only [nrm,xdn,reduceIte,Nat.reduceLT,Nat.reduceSub,Nat.reduceAdd]
   rw [kv fun t ht=>(hts t ht).1]
   exact aI ts
  ·simp only [nrm,xdn,reduceIte,Nat.reduceLT,Nat.reduceSub,Nat.reduceAdd]
   rfl
 unfold t207
 refine G0 (fun h=>pJ (aj ?_) (hA _)) (fun _=>hA _)
 simp only [nrm,xdn,reduceIte,Nat.reduceLT,Nat.reduceSub,Nat.reduceAdd,cJ] at h
 have : ts=[]:=List.length_eq_zero_iff.1 (by omega)
 simp only [nrm,xdn,reduceIte,Nat.reduceLT,Nat.reduceSub,Nat.reduceAdd,this]
 rfl
theorem sW {α : Type} (f : α→α) : ∀ (a : List α) (x : α) (b : List α),(a ++ x :: b).modify a.length f=a ++ f x :: b
 | [],x,b=>by simp
 | y :: a,x,b=>by simp [sW f a x b]
theorem sR {g : List CD→List CD} {h : Tsk→Tsk} : ∀ {l : List Tsk} {i : Nat},g (l.getD i default).iv=(h (l.getD i default)).iv→(l.map Tsk.iv).modify i g=(l.modify i h).map Tsk.iv
 | [],i,_=>by simp
 | a :: l,0,e=>by
  have e : g a.iv=(h a).iv:=e
  simp [e]
 | a :: l,i + 1,e=>by
  have:=sR (l:=l) (i:=i) (by simpa using e)
  simp [this]
theorem gH {l : List Tsk} {i : Nat} {g : List CD→List CD} {h : Tsk→Tsk} (e : g (l.getD i default).iv=(h (l.getD i default)).iv) : CD.l ((az l).rows.modify i g)=az (l.modify i h):=congrArg CD.l (sR e)
def s170 : Sig:=⟨[.agg [.fz kS,.fz kI,.fz kI,.fz kI,.int .i64,.fz kT]],[.agg [.own 52 kS,.own 3 kI,.own 3 kI,.own 3 kI,.int .i64,.own 129 kTo]]⟩
def d170 : DC:=⟨s170,fun _=>True,fun l=>(Wrd.of l).bm.cds⟩
def half (ts : List Tsk) (i : Nat) : List Tsk:=(ts.take i).map Tsk.bm ++ ts.drop i
theorem xM (ts : List Tsk) (i : Nat) (h : i≤ts.length) : (half ts i).length=ts.length:=by simp [half];omega
theorem tF (ts : List Tsk) {i : Nat} (h : i < ts.length) : (half ts i).getD i default=ts.getD i default:=by
 rw [half,List.getD_eq_getElem?_getD,List.getElem?_append_right (by simp;omega),List.getD_eq_getElem?_getD]
 simp [Nat.min_eq_left (Nat.le_of_lt h)]
theorem Cb (ts : List Tsk) {i : Nat} (h : i < ts.length) : (half ts i).modify i Tsk.bm=half ts (i + 1):=by
 have e1 : half ts i=(ts.take i).map Tsk.bm ++ (ts[i] :: ts.drop (i + 1)):=by rw [half,List.drop_eq_getElem_cons h]
 have e2 : half ts (i + 1)=(ts.take i).map Tsk.bm ++ (Tsk.bm ts[i] :: ts.drop (i + 1)):=by
  rw [half,List.take_succ_eq_append_getElem h,List.map_append,List.append_assoc];rfl
 have:=sW Tsk.bm ((ts.take i).map Tsk.bm) ts[i] (ts.drop (i + 1))
 rw [show ((ts.take i).map Tsk.bm).length=i from by simp;omega] at this
 rw [e1,e2,this]
theorem DM (ts : List Tsk) : half ts ts.length=ts.map Tsk.bm:=by simp [half]
def l170 : List (Nat × Ct):=[(161,d161.ct),(207,d207.ct),(53,d53.ct),(172,d172.ct)]
def z170 : Cx:={ T:=ttA,C:=sigs l170,F:=[],hints:=[⟨170,3,false,[(16,.lt),(14,.own 129 kTo)],[(0,5,.own 129 kTo)],[],[],0,0,false⟩],sig:=s170}
def t170 : Tree :=
 (.call 161 [.var 0,.var 1,.var 2,.var 3,.var 4] 6
 (.call 207 [.var 5] 11
 (.need (.clean (.var 11) 15)
 (.loop 12 [.sl 160 [.bool,.int .i64,.int .i64,.int .i64,.int .i64,.int .i64,.int .i64,.int .i64,.int .i64,.int .i64,.int .i64,.int .i64,.sl 16 [.int .i64,.int .i64],.bool,.int .i64,.os 3],.int .i64] [.var 11,.int 0]
 (.ite (.lt (.var 14) (.len (.var 11)))
 (.need (.le (.int 0) (.var 14))
 (.need (.lt (.var 14) (.len (.var 13)))
 (.need (.isL (.cell (.var 13) (.var 14) 15))
 (.call 53 [.cell (.var 13) (.var 14) 15] 15
 (.call 172 [.cell (.var 13) (.var 14) 12] 16
 (.need (.fit (.add (.var 14) (.int 1)))
 (.need (.clean (.set (.set (.var 13) (.var 14) 15 (.own (.var 15))) (.var 14) 12 (.var 16)) 15)
 (.back 12 [.set (.set (.var 13) (.var 14) 15 (.own (.var 15))) (.var 14) 12 (.var 16),.add (.var 14) (.int 1)]))))))))
 (.need (.clean (.var 13) 15)
 (.ret [.var 6,.var 7,.var 8,.var 9,.var 10,.var 13])))))))
theorem run170 : run z170 6000 [.code (Try.f170.body.getD .skip),.fin (bt z170 Try.f170.results.toList 50)] { fn:=170,tmps:=z170.sig.aM ++ List.replicate (Try.f170.ntmps - z170.sig.aM.length) (.v (.one .undef)),stk:=[],h:=z170.sig.h0,nx:=z170.sig.ins.length,known:=[]}=t170:=by kernel_rfl
theorem ok170 : cB Try.prog 170 d170.ct:=by
 refine aD (d:=d170) (Z:=z170) (Γ:=gam l170) (fn:=Try.f170) (c:=Try.f170.body.getD .skip) (bg tok mixed (all_cons ok161 (all_cons ok207 (all_cons ok53 (all_cons ok172 all_nil)))) bh) Try.func170 (by kernel_rfl) (by kernel_rfl) rfl run170 fun E hk hp=>?_
 obtain ⟨hk0,hk1,hk2,hk3,hk4,hk5,_⟩:=hk
 obtain ⟨m,e0,e1,e2,e3,e4,b0,b1,b2,b3⟩:=cv (d0:=E 0) (d1:=E 1) (d2:=E 2) (d3:=E 3) (d4:=E 4) hk0 hk1 hk2 hk3 hk4
 obtain ⟨ts,e5,hts,b5⟩:=hU (d:=E 5) hk5
 have b5 : ts.length * 160≤140737488355328:=b5
 have el : aH E d170.sig.ins.length=[au m.slots,af m.heads,af m.free,af m.locks,.i m.now,G2 ts]:=by
  show [E 0,E 1,E 2,E 3,E 4,E 5]=_
  rw [e0,e1,e2,e3,e4,e5]
 rw [el] at hp
 rw [el]
 rw [Env.bJ el]
 clear el e0 e1 e2 e3 e4 e5
 have hc : d170.fn [au m.slots,af m.heads,af m.free,af m.locks,.i m.now,G2 ts]=m.cds ++ [az (ts.map Tsk.bm)]:=by
  simp only [d170,Wrd.of,Wrd.bm,Wrd.cds,mem_of,aA,List.getD_cons_zero,List.getD_cons_succ,fZ fun t ht=>(hts t ht).1]
 rw [hc]
 have hto : G2 ts=az ts:=kv fun t ht=>(hts t ht).1
 unfold t170
 refine ai d161 [au m.slots,af m.heads,af m.free,af m.locks,.i m.now] rfl trivial (by simp only [nrm,xdn,reduceIte,Nat.reduceLT,Nat.reduceSub,Nat.reduceAdd,d161,mem_of,aA,Mem.cds]) (ai d207 [G2 ts] rfl trivial (by simp only [nrm,xdn,reduceIte,Nat.reduceLT,Nat.reduceSub,Nat.reduceAdd,d207,fZ fun t ht=>(hts t ht).1]) ?_)
 refine ag (by simp only [nrm,xdn,reduceIte,Nat.reduceLT,Nat.reduceSub,Nat.reduceAdd];rw [hto];exact aI ts) (bO (fun ds=>∃ i : Nat,ds=[az (half ts i),.i i]∧i≤ts.length) (fun ds=>ts.length - (ds.getD 1 .u).int.toNat) ⟨0,?_,by omega⟩ ?_)
 ·simp only [nrm,xdn,reduceIte,Nat.reduceLT,Nat.reduceSub,Nat.reduceAdd,half,List.take_zero,List.nil_append,List.drop_zero,hto];rfl
 rintro ds - ⟨i,rfl,hi⟩
 refine G0 (fun h1=>?_) (fun h1=>?_)
 ·simp only [nrm,xdn,reduceIte,Nat.reduceLT,Nat.reduceSub,Nat.reduceAdd,cJ] at h1
  have hi' : i < (half ts i).length:=by rw [xM ts i hi];omega
  have ht:=(hts _ (fc (l:=ts) (i:=i) (by omega)))
  have e15 : ((az (half ts i)).rows.getD i []).getD 15 .u=af (ts.getD i default).held:=by
   rw [cO 15 hi',tF ts (by omega)]
   show (ts.getD i default).hd=_
   unfold Tsk.hd;rw [ht.1];rfl
  have e12 : ((az (half ts i)).rows.getD i []).getD 12 .u=bS (ts.getD i default).f.keys:=by
   rw [cO 12 hi',tF ts (by omega)];rfl
  refine ag (by simp only [nrm,xdn,reduceIte,Nat.reduceLT,Nat.reduceSub,Nat.reduceAdd];omega) (ag (by simp only [nrm,xdn,reduceIte,Nat.reduceLT,Nat.reduceSub,Nat.reduceAdd,eK,xM ts i hi];omega) (ag (by simp only [nrm,xdn,reduceIte,Nat.reduceLT,Nat.reduceSub,Nat.reduceAdd,Int.toNat_natCast,e15];rfl) ?_))
  refine ai d53 [af (ts.getD i default).held] rfl trivial (by simp only [nrm,xdn,reduceIte,Nat.reduceLT,Nat.reduceSub,Nat.reduceAdd,Int.toNat_natCast,e15,d53,bY]) (ai d172 [bS (ts.getD i default).f.keys] rfl trivial (by simp only [nrm,xdn,reduceIte,Nat.reduceLT,Nat.reduceSub,Nat.reduceAdd,Int.toNat_natCast,e12,d172,jf]) ?_)
  have hset : CD.l ((az (half ts i)).rows.modify i fun r=>(r.set 15 (.o (af (ts.getD i default).held).rows)).set 12 (bS (ts.getD i default).f.keys))=az (half ts (i + 1)):=by
   rw [← Cb ts (by omega),← tF ts (by omega)]
   exact gH rfl
  refine G1 (by simp only [nrm,xdn,reduceIte,Nat.reduceLT,Nat.reduceSub,Nat.reduceAdd];omega) (ag ?_ (aV ⟨⟨i + 1,?_,by omega⟩,?_⟩))
  ·simp only [nrm,xdn,reduceIte,Nat.reduceLT,Nat.reduceSub,Nat.reduceAdd,Int.toNat_natCast,e15,CD.ax,aC]
   rw [show ((az (half ts i)).rows.modify i fun r=>(r.set 15 (.o (af (ts.getD i default).held).rows)).set 12 (bS (ts.getD i default).f.keys))=(az (half ts (i + 1))).rows from congrArg CD.rows hset]
   exact aI _
  ·simp only [nrm,xdn,reduceIte,Nat.reduceLT,Nat.reduceSub,Nat.reduceAdd,Int.toNat_natCast,CD.ax,aC]
   rw [hset];rfl
  ·simp only [nrm,xdn,reduceIte,Nat.reduceLT,Nat.reduceSub,Nat.reduceAdd];omega
 ·simp only [nrm,xdn,reduceIte,Nat.reduceLT,Nat.reduceSub,Nat.reduceAdd,cJ] at h1
  have : i=ts.length:=by omega
  subst this
  refine ag (by simp only [nrm,xdn,reduceIte,Nat.reduceLT,Nat.reduceSub,Nat.reduceAdd];exact aI _) (aj ?_)
  simp only [nrm,xdn,reduceIte,Nat.reduceLT,Nat.reduceSub,Nat.reduceAdd,DM,Mem.cds]
  rfl
end Go.Proofs.Ytpmamacjepcdmaa
