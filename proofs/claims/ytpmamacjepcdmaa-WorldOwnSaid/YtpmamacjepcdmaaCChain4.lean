import Derived.Test.YtpmamacjepcdmaaCChain2
namespace Go.Proofs.Ytpmamacjepcdmaa
open Go Go.Sy Go.RowKit
set_option linter.unusedSimpArgs false
set_option linter.unusedVariables false
def jc (n : Int) (s : bp) : bp:={ s with inn:=true,next:=n}
def og (n : Int) (s : bp) : bp:={ s with next:=n}
def link (m : Mem) (a b : Int) : Mem:={ m with slots:=m.slots.modify a.toNat (jc (aO m b)),heads:=m.heads.set b.toNat (a + 1)}
def cut (m : Mem) (prev a b : Int) : Mem :=
 if 0 < prev then { m with slots:=m.slots.modify (prev - 1).toNat (og (msl m a.toNat).next)} else { m with heads:=m.heads.set b.toNat (msl m a.toNat).next}
def bk (m : Mem) (k : Key) : Int:=(aY k m.heads.length).1
theorem vr {k : Key} {n : Int} (hk : Key.Ok k) (h1 : 1≤n) (h2 : n≤4) : 0≤(aY k n).1∧(aY k n).1 < n∧(aY k n).2=0:=by
 have hb:=uQ hk.1 hk.2.1 hk.2.2.1 hk.2.2.2
 obtain ⟨k1,k2,k3,k4⟩:=id hk
 unfold aY
 rw [if_pos hk,if_neg (by omega)]
 exact ⟨Int.tmod_nonneg _ (by omega),Int.tmod_lt_of_pos _ (by omega),rfl⟩
theorem HL {k : Key} {n : Int} (hk : ¬ Key.Ok k) : aY k n=(0,3):=by unfold aY;rw [if_neg hk]
theorem oL {m : Mem} (hm : bB m) (b : Int) : (bP m b).1.length≤m.slots.length∧∀ a∈(bP m b).1,0≤a∧a < m.slots.length:=by
 unfold bP
 cases hc : cQ m b with
 | none=>exact ⟨by simp,fun _ h=>by cases h⟩
 | some l=>exact rm hm hc
def E3 (m : Mem) (a : Int) (k : Int) : Bool:=decide (k=a∨(msl m k.toNat).k=(msl m a.toNat).k)
def linked (m : Mem) (a : Int) : Mem × Int :=
 if bU m≠0 then (Mem.none,bU m) else if a < 0∨m.slots.length≤a then (Mem.none,5) else if (msl m a.toNat).refs=0 then (Mem.none,8)
 else if (bP m (bk m (msl m a.toNat).k)).1.any (E3 m a)=true then (Mem.none,6) else (link m a (bk m (msl m a.toNat).k),0)
def Bg (m : Mem) (k : Key) (b : Int) : List Int→Int→Mem × Int × Int
 | [],_=>(Mem.none,0,5)
 | a :: l,prev=>if (msl m a.toNat).k=k then (cut m prev a b,a,0) else Bg m k b l (a + 1)
def EA (m : Mem) (k : Key) : Mem × Int × Int :=
 if bU m≠0 then (Mem.none,0,bU m) else if (aY k m.heads.length).2≠0 then (Mem.none,0,(aY k m.heads.length).2) else Bg m k (bk m k) (bP m (bk m k)).1 0
theorem K7 {m : Mem} {k : Key} {b prev : Int} {l : List Int} {i : Nat} (h : i < l.length) : Bg m k b (l.drop i) prev=if (msl m (l.getD i 0).toNat).k=k then (cut m prev (l.getD i 0) b,l.getD i 0,0) else Bg m k b (l.drop (i + 1)) (l.getD i 0 + 1):=by
 rw [dL h];rfl
def bu (m : Mem) (a : Int) : cI:=⟨(msl m a.toNat).k,a,(msl m a.toNat).till⟩
def bC (m : Mem) : Nat→Nat→List cI→List cI
 | 0,_,acc=>acc
 | n + 1,b,acc=>bC m n (b + 1) (acc ++ (bP m b).1.map (bu m))
def aq (m : Mem) : List cI:=bC m m.heads.length 0 []
def jM (m : Mem) : List cI × Int:=if bU m≠0 then ([],bU m) else (aq m,0)
theorem I8 {m : Mem} : ∀ (n b : Nat) (ks : List Key),dk m n b ks=0→∀ i,b≤i→i < b + n→∃ l,cQ m i=some l
 | 0,_,_,_,i,h1,h2=>by omega
 | n + 1,b,ks,h,i,h1,h2=>by
  cases hc : cQ m b with
  | none=>rw [mF hc] at h;cases h
  | some l =>
   rw [mE hc] at h
   split at h
   ·rename_i hx;exact absurd h hx
   ·rcases Nat.lt_or_ge b i with hl | hg
    ·exact I8 n (b + 1) _ h i (by omega) (by omega)
    ·have : i=b:=by omega
     subst this
     exact ⟨l,hc⟩
theorem rM {m : Mem} (h : bU m=0) : bB m:=by
 unfold bU at h
 split at h
 ·rename_i hx;exact absurd h hx
 ·rename_i hx;exact (dT m).1 (Classical.not_not.1 hx)
theorem JO {m : Mem} (h : bU m=0) {b : Nat} (hb : b < m.heads.length) : ∃ l,cQ m b=some l:=by
 have hm:=rM h
 unfold bU at h
 rw [if_neg (fun hx=>hx ((dT m).2 hm))] at h
 exact I8 _ _ _ h b (by omega) (by omega)
theorem H8 {m : Mem} {b : Int} {l : List Int} (h : cQ m b=some l) : (Hn m b)=(l,true)∧bP m b=(l,0):=by
 refine ⟨?_,by unfold bP;rw [h]⟩
 have:=mG h
 unfold Hn
 rw [this]
 simp
def s176 : Sig:=⟨[.ptr [.own 52 kS,.own 3 kI,.own 3 kI,.own 3 kI,.int .i64],.one (.int .i64),.one (.int .i64)],[]⟩
def d176 : DC:=⟨s176,fun l=>0≤(l.getD 5 .u).int∧(l.getD 5 .u).int < (Mem.of l).slots.length∧0≤(l.getD 6 .u).int∧(l.getD 6 .u).int < (Mem.of l).heads.length,fun l=>(link (Mem.of l) (l.getD 5 .u).int (l.getD 6 .u).int).cds⟩
theorem fn176 (m : Mem) (a b : Int) : d176.fn [au m.slots,af m.heads,af m.free,af m.locks,.i m.now,.i a,.i b]=(link m a b).cds:=by simp only [d176,mem_of,aA,List.getD_cons_zero,List.getD_cons_succ,CD.aR]
def l176 : List (Nat × Ct):=[]
def z176 : Cx:={ T:=ttA,C:=sigs l176,F:=[],hints:=[],sig:=s176}
def t176 : Tree :=
 (.need (.le (.int 0) (.var 6))
 (.need (.lt (.var 6) (.len (.var 1)))
 (.need (.le (.int 0) (.var 5))
 (.need (.lt (.var 5) (.len (.var 0)))
 (.need (.fit (.add (.var 5) (.int 1)))
 (.ret [.set (.set (.var 0) (.var 5) 5 (.cell (.var 1) (.var 6) 0)) (.var 5) 4 (.bool true),.set (.var 1) (.var 6) 0 (.add (.var 5) (.int 1)),.var 2,.var 3,.var 4]))))))
theorem run176 : run z176 6000 [.code (Try.f176.body.getD .skip),.fin (bt z176 Try.f176.results.toList 50)] { fn:=176,tmps:=z176.sig.aM ++ List.replicate (Try.f176.ntmps - z176.sig.aM.length) (.v (.one .undef)),stk:=[],h:=z176.sig.h0,nx:=z176.sig.ins.length,known:=[]}=t176:=by kernel_rfl
theorem ok176 : cB Try.prog 176 d176.ct:=by
 refine aD (d:=d176) (Z:=z176) (Γ:=gam l176) (fn:=Try.f176) (c:=Try.f176.body.getD .skip) (bg tok mixed all_nil bh) Try.func176 (by kernel_rfl) (by kernel_rfl) rfl run176 fun E hk hp=>?_
 obtain ⟨hk0,hk1,hk2,hk3,hk4,hk5,hk6,_⟩:=hk
 obtain ⟨m,e0,e1,e2,e3,e4,b0,b1,b2,b3⟩:=cv (d0:=E 0) (d1:=E 1) (d2:=E 2) (d3:=E 3) (d4:=E 4) hk0 hk1 hk2 hk3 hk4
 obtain ⟨x,e5⟩:=ok_int (d:=E 5) hk5
 obtain ⟨x2,e6⟩:=ok_int (d:=E 6) hk6
 have el : aH E d176.sig.ins.length=[au m.slots,af m.heads,af m.free,af m.locks,.i m.now,.i x,.i x2]:=by
  show [E 0,E 1,E 2,E 3,E 4,E 5,E 6]=_
  rw [e0,e1,e2,e3,e4,e5,e6]
 rw [el] at hp
 rw [el]
 rw [Env.bJ el]
 clear el e0 e1 e2 e3 e4 e5 e6
 rw [fn176]
 simp only [d176,mem_of,aA,List.getD_cons_zero,List.getD_cons_succ,CD.aR] at hp
 obtain ⟨h1,h2,h3,h4⟩:=hp
 unfold t176
 refine ag (by simp only [nrm,xdn,reduceIte,Nat.reduceLT,Nat.reduceSub,Nat.reduceAdd];omega) (ag (by simp only [nrm,xdn,reduceIte,Nat.reduceLT,Nat.reduceSub,Nat.reduceAdd,aw];omega) (ag (by simp only [nrm,xdn,reduceIte,Nat.reduceLT,Nat.reduceSub,Nat.reduceAdd];omega) (ag (by simp only [nrm,xdn,reduceIte,Nat.reduceLT,Nat.reduceSub,Nat.reduceAdd,aN];omega) (G1 (by simp only [nrm,xdn,reduceIte,Nat.reduceLT,Nat.reduceSub,Nat.reduceAdd];omega) (aj ?_)))))
 simp only [nrm,xdn,reduceIte,Nat.reduceLT,Nat.reduceSub,Nat.reduceAdd,iK (show x2.toNat < m.heads.length by omega),CV,CW,iG,aC,Mem.cds]
 rfl
def s177 : Sig:=⟨[.ptr [.own 52 kS,.own 3 kI,.own 3 kI,.own 3 kI,.int .i64],.one (.int .i64),.one (.int .i64),.one (.int .i64)],[]⟩
def d177 : DC:=⟨s177,fun l=>(l.getD 5 .u).int≤(Mem.of l).slots.length∧0≤(l.getD 6 .u).int∧(l.getD 6 .u).int < (Mem.of l).slots.length∧0≤(l.getD 7 .u).int∧(l.getD 7 .u).int < (Mem.of l).heads.length,fun l=>(cut (Mem.of l) (l.getD 5 .u).int (l.getD 6 .u).int (l.getD 7 .u).int).cds⟩
theorem fn177 (m : Mem) (p a b : Int) : d177.fn [au m.slots,af m.heads,af m.free,af m.locks,.i m.now,.i p,.i a,.i b]=(cut m p a b).cds:=by simp only [d177,mem_of,aA,List.getD_cons_zero,List.getD_cons_succ,CD.aR]
theorem pre177 {m : Mem} {p a b : Int} (h1 : p≤m.slots.length) (h2 : 0≤a) (h3 : a < m.slots.length) (h4 : 0≤b) (h5 : b < m.heads.length) : d177.pre [au m.slots,af m.heads,af m.free,af m.locks,.i m.now,.i p,.i a,.i b]:=by
 simp only [d177,mem_of,aA,List.getD_cons_zero,List.getD_cons_succ,CD.aR]
 exact ⟨h1,h2,h3,h4,h5⟩
def l177 : List (Nat × Ct):=[]
def z177 : Cx:={ T:=ttA,C:=sigs l177,F:=[],hints:=[],sig:=s177}
def t177 : Tree :=
 (.ite (.lt (.int 0) (.var 5))
 (.need (.fit (.sub (.var 5) (.int 1)))
 (.need (.le (.int 0) (.var 6))
 (.need (.lt (.var 6) (.len (.var 0)))
 (.need (.le (.int 0) (.sub (.var 5) (.int 1)))
 (.need (.lt (.sub (.var 5) (.int 1)) (.len (.var 0)))
 (.ret [.set (.var 0) (.sub (.var 5) (.int 1)) 5 (.cell (.var 0) (.var 6) 5),.var 1,.var 2,.var 3,.var 4]))))))
 (.need (.le (.int 0) (.var 6))
 (.need (.lt (.var 6) (.len (.var 0)))
 (.need (.le (.int 0) (.var 7))
 (.need (.lt (.var 7) (.len (.var 1)))
 (.ret [.var 0,.set (.var 1) (.var 7) 0 (.cell (.var 0) (.var 6) 5),.var 2,.var 3,.var 4]))))))
theorem run177 : run z177 6000 [.code (Try.f177.body.getD .skip),.fin (bt z177 Try.f177.results.toList 50)] { fn:=177,tmps:=z177.sig.aM ++ List.replicate (Try.f177.ntmps - z177.sig.aM.length) (.v (.one .undef)),stk:=[],h:=z177.sig.h0,nx:=z177.sig.ins.length,known:=[]}=t177:=by kernel_rfl
theorem ok177 : cB Try.prog 177 d177.ct:=by
 refine aD (d:=d177) (Z:=z177) (Γ:=gam l177) (fn:=Try.f177) (c:=Try.f177.body.getD .skip) (bg tok mixed all_nil bh) Try.func177 (by kernel_rfl) (by kernel_rfl) rfl run177 fun E hk hp=>?_
 obtain ⟨hk0,hk1,hk2,hk3,hk4,hk5,hk6,hk7,_⟩:=hk
 obtain ⟨m,e0,e1,e2,e3,e4,b0,b1,b2,b3⟩:=cv (d0:=E 0) (d1:=E 1) (d2:=E 2) (d3:=E 3) (d4:=E 4) hk0 hk1 hk2 hk3 hk4
 obtain ⟨x,e5⟩:=ok_int (d:=E 5) hk5
 obtain ⟨x2,e6⟩:=ok_int (d:=E 6) hk6
 obtain ⟨x3,e7⟩:=ok_int (d:=E 7) hk7
 have el : aH E d177.sig.ins.length=[au m.slots,af m.heads,af m.free,af m.locks,.i m.now,.i x,.i x2,.i x3]:=by
  show [E 0,E 1,E 2,E 3,E 4,E 5,E 6,E 7]=_
  rw [e0,e1,e2,e3,e4,e5,e6,e7]
 rw [el] at hp
 rw [el]
 rw [Env.bJ el]
 clear el e0 e1 e2 e3 e4 e5 e6 e7
 rw [fn177]
 simp only [d177,mem_of,aA,List.getD_cons_zero,List.getD_cons_succ,CD.aR] at hp
 obtain ⟨h1,h2,h3,h4,h5⟩:=hp
 have hn : ((au m.slots).rows.getD x2.toNat []).getD 5 .u=.i (msl m x2.toNat).next:=qa (by omega)
 unfold cut
 unfold t177
 refine G0 (fun h=>?_) (fun h=>?_)
 ·simp only [nrm,xdn,reduceIte,Nat.reduceLT,Nat.reduceSub,Nat.reduceAdd] at h
  rw [if_pos h]
  refine G1 (by simp only [nrm,xdn,reduceIte,Nat.reduceLT,Nat.reduceSub,Nat.reduceAdd];omega) (ag (by simp only [nrm,xdn,reduceIte,Nat.reduceLT,Nat.reduceSub,Nat.reduceAdd];omega) (ag (by simp only [nrm,xdn,reduceIte,Nat.reduceLT,Nat.reduceSub,Nat.reduceAdd,aN];omega) (ag (by simp only [nrm,xdn,reduceIte,Nat.reduceLT,Nat.reduceSub,Nat.reduceAdd];omega) (ag (by simp only [nrm,xdn,reduceIte,Nat.reduceLT,Nat.reduceSub,Nat.reduceAdd,aN];omega) (aj ?_)))))
  simp only [nrm,xdn,reduceIte,Nat.reduceLT,Nat.reduceSub,Nat.reduceAdd,hn,CV,Mem.cds]
  rfl
 ·simp only [nrm,xdn,reduceIte,Nat.reduceLT,Nat.reduceSub,Nat.reduceAdd] at h
  rw [if_neg h]
  refine ag (by simp only [nrm,xdn,reduceIte,Nat.reduceLT,Nat.reduceSub,Nat.reduceAdd];omega) (ag (by simp only [nrm,xdn,reduceIte,Nat.reduceLT,Nat.reduceSub,Nat.reduceAdd,aN];omega) (ag (by simp only [nrm,xdn,reduceIte,Nat.reduceLT,Nat.reduceSub,Nat.reduceAdd];omega) (ag (by simp only [nrm,xdn,reduceIte,Nat.reduceLT,Nat.reduceSub,Nat.reduceAdd,aw];omega) (aj ?_))))
  simp only [nrm,xdn,reduceIte,Nat.reduceLT,Nat.reduceSub,Nat.reduceAdd,hn,iG,Mem.cds]
def s82 : Sig:=⟨[.agg [.fz kS,.fz kI,.fz kI,.fz kI,.int .i64],.one (.int .i64)],[.agg [.own 52 kS,.own 3 kI,.own 3 kI,.own 3 kI,.int .i64],.one (.int .i64)]⟩
def d82 : DC:=⟨s82,fun _=>True,fun l=>(linked (Mem.of l) (l.getD 5 .u).int).1.cds ++ [.i (linked (Mem.of l) (l.getD 5 .u).int).2]⟩
theorem fn82 (m : Mem) (a : Int) : d82.fn [au m.slots,af m.heads,af m.free,af m.locks,.i m.now,.i a]=(linked m a).1.cds ++ [.i (linked m a).2]:=by simp only [d82,mem_of,aA,List.getD_cons_zero,List.getD_cons_succ,CD.aR]
def l82 : List (Nat × Ct):=[(74,d74.ct),(97,d97.ct),(168,d168.ct),(161,d161.ct),(176,d176.ct)]
noncomputable def z82 : Cx:={ T:=ttA,C:=sigs l82,F:=[(116,Try.f116),(195,Try.f195),(175,Try.f175)],hints:=[⟨195,2,false,[(8,.lt)],[],[],[],0,0,false⟩],sig:=s82}
def t82 : Tree :=
 (.call 74 [.var 0,.var 1,.var 2,.var 3,.var 4] 6
 (.ite (.not (.eq (.var 6) (.int 0)))
 (.ret [.nil,.nil,.nil,.nil,.int 0,.var 6])
 (.ite (.lt (.var 5) (.int 0))
 (.ret [.nil,.nil,.nil,.nil,.int 0,.int 5])
 (.ite (.le (.len (.var 0)) (.var 5))
 (.ret [.nil,.nil,.nil,.nil,.int 0,.int 5])
 (.need (.le (.int 0) (.var 5))
 (.need (.lt (.var 5) (.len (.var 0)))
 (.ite (.eq (.cell (.var 0) (.var 5) 0) (.int 0))
 (.ret [.nil,.nil,.nil,.nil,.int 0,.int 8])
 (.call 97 [.cell (.var 0) (.var 5) 1,.cell (.var 0) (.var 5) 2,.len (.var 1)] 7
 (.call 168 [.var 0,.var 1,.var 2,.var 3,.var 4,.var 7] 9
 (.loop 11 [.int .i64] [.int 0]
 (.ite (.lt (.var 12) (.len (.var 9)))
 (.need (.le (.int 0) (.var 12))
 (.ite (.eq (.cell (.var 9) (.var 12) 0) (.var 5))
 (.ret [.nil,.nil,.nil,.nil,.int 0,.int 6])
 (.need (.le (.int 0) (.cell (.var 9) (.var 12) 0))
 (.need (.lt (.cell (.var 9) (.var 12) 0) (.len (.var 0)))
 (.ite (.and (.eq (.cell (.var 0) (.cell (.var 9) (.var 12) 0) 1) (.cell (.var 0) (.var 5) 1)) (.and (.eq (.cell (.var 0) (.cell (.var 9) (.var 12) 0) 2) (.cell (.var 0) (.var 5) 2)) (.bool true)))
 (.ret [.nil,.nil,.nil,.nil,.int 0,.int 6])
 (.need (.fit (.add (.var 12) (.int 1)))
 (.back 11 [.add (.var 12) (.int 1)])))))))
 (.call 161 [.var 0,.var 1,.var 2,.var 3,.var 4] 13
 (.call 176 [.var 13,.var 14,.var 15,.var 16,.var 17,.var 5,.var 7] 18
 (.ret [.var 18,.var 19,.var 20,.var 21,.var 22,.int 0]))))))))))))))
theorem run82 : run z82 6000 [.code (Try.f82.body.getD .skip),.fin (bt z82 Try.f82.results.toList 50)] { fn:=82,tmps:=z82.sig.aM ++ List.replicate (Try.f82.ntmps - z82.sig.aM.length) (.v (.one .undef)),stk:=[],h:=z82.sig.h0,nx:=z82.sig.ins.length,known:=[]}=t82:=by kernel_rfl
theorem ok82 : cB Try.prog 82 d82.ct:=by
 refine aD (d:=d82) (Z:=z82) (Γ:=gam l82) (fn:=Try.f82) (c:=Try.f82.body.getD .skip) (bg tok mixed (all_cons ok74 (all_cons ok97 (all_cons ok168 (all_cons ok161 (all_cons ok176 all_nil))))) (dX (c:=Try.f116.body.getD .skip) Try.func116 (by kernel_rfl) (by kernel_rfl) (dX (c:=Try.f195.body.getD .skip) Try.func195 (by kernel_rfl) (by kernel_rfl) (dX (c:=Try.f175.body.getD .skip) Try.func175 (by kernel_rfl) (by kernel_rfl) bh)))) Try.func82 (by kernel_rfl) (by kernel_rfl) rfl run82 fun E hk hp=>?_
 obtain ⟨hk0,hk1,hk2,hk3,hk4,hk5,_⟩:=hk
 obtain ⟨m,e0,e1,e2,e3,e4,b0,b1,b2,b3⟩:=cv (d0:=E 0) (d1:=E 1) (d2:=E 2) (d3:=E 3) (d4:=E 4) hk0 hk1 hk2 hk3 hk4
 obtain ⟨x,e5⟩:=ok_int (d:=E 5) hk5
 have el : aH E d82.sig.ins.length=[au m.slots,af m.heads,af m.free,af m.locks,.i m.now,.i x]:=by
  show [E 0,E 1,E 2,E 3,E 4,E 5]=_
  rw [e0,e1,e2,e3,e4,e5]
 rw [el] at hp
 rw [el]
 rw [Env.bJ el]
 clear el e0 e1 e2 e3 e4 e5
 rw [fn82]
 unfold linked
 unfold t82
 refine ai d74 [.i (bU m)] rfl trivial (by simp only [nrm,xdn,reduceIte,Nat.reduceLT,Nat.reduceSub,Nat.reduceAdd,fn74]) (G0 (fun h=>aj ?_) (fun h=>G0 (fun h1=>aj ?_) (fun h1=>G0 (fun h2=>aj ?_) (fun h2=>?_))))
 ·simp only [nrm,xdn,reduceIte,Nat.reduceLT,Nat.reduceSub,Nat.reduceAdd,Bool.not_eq_true'] at h ⊢
  rw [if_pos h];rfl
 ·simp only [nrm,xdn,reduceIte,Nat.reduceLT,Nat.reduceSub,Nat.reduceAdd,Bool.not_eq_false'] at h h1 ⊢
  rw [if_neg (by omega),if_pos (by omega)];rfl
 ·simp only [nrm,xdn,reduceIte,Nat.reduceLT,Nat.reduceSub,Nat.reduceAdd,Bool.not_eq_false',aN] at h h2 ⊢
  rw [if_neg (by omega),if_pos (by omega)];rfl
 simp only [nrm,xdn,reduceIte,Nat.reduceLT,Nat.reduceSub,Nat.reduceAdd,Bool.not_eq_false',aN] at h h1 h2
 rw [if_neg (by omega),if_neg (by omega)]
 have hm:=rM (by omega : bU m=0)
 have hns:=hm.ns
 have hnh:=hm.nh4
 have hnh1:=hm.nh1
 have hm0 : m.slots.getD x.toNat default=msl m x.toNat:=rfl
 refine ag (by simp only [nrm,xdn,reduceIte,Nat.reduceLT,Nat.reduceSub,Nat.reduceAdd];omega) (ag (by simp only [nrm,xdn,reduceIte,Nat.reduceLT,Nat.reduceSub,Nat.reduceAdd,aN];omega) (G0 (fun h3=>aj ?_) (fun h3=>?_)))
 ·simp only [nrm,xdn,reduceIte,Nat.reduceLT,Nat.reduceSub,Nat.reduceAdd,cX,hm0] at h3 ⊢
  rw [if_pos h3];rfl
 simp only [nrm,xdn,reduceIte,Nat.reduceLT,Nat.reduceSub,Nat.reduceAdd,cX,hm0] at h3
 rw [if_neg h3]
 have hk:=(hm.sl (i:=x.toNat) (by omega)).k
 have hbk:=vr (n:=m.heads.length) hk (by omega) (by omega)
 have hk1 : ((au m.slots).rows.getD x.toNat []).getD 1 .u=.i (msl m x.toNat).k.a:=qc (by omega)
 have hk2 : ((au m.slots).rows.getD x.toNat []).getD 2 .u=.i (msl m x.toNat).k.b:=qb (by omega)
 refine ai d97 [.i (bk m (msl m x.toNat).k),.i (aY (msl m x.toNat).k m.heads.length).2] rfl trivial (by simp only [nrm,xdn,reduceIte,Nat.reduceLT,Nat.reduceSub,Nat.reduceAdd,hk1,hk2,aw,fn97];rfl) ?_
 have hb1 : 0≤bk m (msl m x.toNat).k:=hbk.1
 have hb2 : bk m (msl m x.toNat).k < m.heads.length:=hbk.2.1
 generalize bk m (msl m x.toNat).k=b at *
 refine ai d168 [af (bP m b).1,.i (bP m b).2] rfl ?_ (by simp only [nrm,xdn,reduceIte,Nat.reduceLT,Nat.reduceSub,Nat.reduceAdd,fn168]) ?_
 ·simp only [nrm,xdn,reduceIte,Nat.reduceLT,Nat.reduceSub,Nat.reduceAdd]
  exact pre168 hm hb1 hb2
 obtain ⟨hl,hlm⟩:=oL hm b
 generalize (bP m b).1=l at *
 refine bO (fun ds=>∃ i : Nat,ds=[.i i]∧i≤l.length∧l.any (E3 m x)=(l.drop i).any (E3 m x)) (fun ds=>l.length - (ds.getD 0 .u).int.toNat) ⟨0,rfl,by omega,rfl⟩ ?_
 rintro ds - ⟨i,rfl,hi,ht⟩
 refine G0 (fun hlt=>?_) (fun hge=>?_)
 ·simp only [nrm,xdn,reduceIte,Nat.reduceLT,Nat.reduceSub,Nat.reduceAdd,aw] at hlt
  have ha:=hlm (l.getD i 0) (pA (by omega))
  have hd : l.drop i=l.getD i 0 :: l.drop (i + 1):=dL (by omega)
  rw [hd,List.any_cons] at ht
  generalize hag : l.getD i 0=a at *
  have ha0 : m.slots.getD a.toNat default=msl m a.toNat:=rfl
  refine ag (by simp only [nrm,xdn,reduceIte,Nat.reduceLT,Nat.reduceSub,Nat.reduceAdd];omega) (G0 (fun c1=>aj ?_) (fun c1=>ag (by simp only [nrm,xdn,reduceIte,Nat.reduceLT,Nat.reduceSub,Nat.reduceAdd,Int.toNat_natCast,aG,hag];omega) (ag (by simp only [nrm,xdn,reduceIte,Nat.reduceLT,Nat.reduceSub,Nat.reduceAdd,Int.toNat_natCast,aG,hag,aN];omega) (G0 (fun c2=>aj ?_) (fun c2=>?_)))))
  ·simp only [nrm,xdn,reduceIte,Nat.reduceLT,Nat.reduceSub,Nat.reduceAdd,Int.toNat_natCast,aG,hag] at c1 ⊢
   have : E3 m x a=true:=decide_eq_true (.inl c1)
   rw [ht,this,Bool.true_or,if_pos rfl];rfl
  ·simp only [nrm,xdn,reduceIte,Nat.reduceLT,Nat.reduceSub,Nat.reduceAdd,Int.toNat_natCast,aG,hag,cG,cF,ha0,hm0,Bool.and_eq_true,and_true] at c2 ⊢
   have : E3 m x a=true:=decide_eq_true (.inr (by
    have e1:=c2.1
    have e2:=c2.2
    cases hx : (msl m a.toNat).k
    cases hy : (msl m x.toNat).k
    rw [hx,hy] at e1 e2
    simp only at e1 e2
    rw [e1,e2]))
   rw [ht,this,Bool.true_or,if_pos rfl];rfl
  ·simp only [nrm,xdn,reduceIte,Nat.reduceLT,Nat.reduceSub,Nat.reduceAdd,Int.toNat_natCast,aG,hag,cG,cF,ha0,hm0,Bool.and_eq_false_iff,or_false,Bool.true_eq_false] at c1 c2
   have hno : E3 m x a=false:=decide_eq_false (by
    rintro (h | h)
    ·exact c1 h
    ·rw [h] at c2
     rcases c2 with c2 | c2 <;> exact c2 rfl)
   rw [hno,Bool.false_or] at ht
   refine G1 (by simp only [nrm,xdn,reduceIte,Nat.reduceLT,Nat.reduceSub,Nat.reduceAdd];omega) (aV ⟨⟨i + 1,?_,by omega,ht⟩,?_⟩)
   ·simp only [nrm,xdn,reduceIte,Nat.reduceLT,Nat.reduceSub,Nat.reduceAdd];rfl
   ·simp only [nrm,xdn,reduceIte,Nat.reduceLT,Nat.reduceSub,Nat.reduceAdd];omega
 ·simp only [nrm,xdn,reduceIte,Nat.reduceLT,Nat.reduceSub,Nat.reduceAdd,aw] at hge
  have hno : l.any (E3 m x)=false:=by rw [ht,List.drop_of_length_le (by omega)];rfl
  rw [hno,if_neg (by decide)]
  refine ai d161 m.cds rfl trivial (by simp only [nrm,xdn,reduceIte,Nat.reduceLT,Nat.reduceSub,Nat.reduceAdd,d161,mem_of,aA]) ?_
  refine ai d176 (link m x b).cds rfl ?_ (by simp only [nrm,xdn,reduceIte,Nat.reduceLT,Nat.reduceSub,Nat.reduceAdd,Mem.cds,lca,fn176]) (aj ?_)
  ·simp only [nrm,xdn,reduceIte,Nat.reduceLT,Nat.reduceSub,Nat.reduceAdd,Mem.cds,lca]
   have hh : d176.pre [au m.slots,af m.heads,af m.free,af m.locks,.i m.now,.i x,.i b]:=by
    simp only [d176,mem_of,aA,List.getD_cons_zero,List.getD_cons_succ,CD.aR]
    exact ⟨by omega,by omega,hb1,hb2⟩
   exact hh
  ·simp only [nrm,xdn,reduceIte,Nat.reduceLT,Nat.reduceSub,Nat.reduceAdd,Mem.cds,lca]
def s83 : Sig:=⟨[.agg [.fz kS,.fz kI,.fz kI,.fz kI,.int .i64],.agg [.int .i64,.int .i64]],[.agg [.own 52 kS,.own 3 kI,.own 3 kI,.own 3 kI,.int .i64],.one (.int .i64),.one (.int .i64)]⟩
def d83 : DC:=⟨s83,fun _=>True,fun l=>(EA (Mem.of l) (Key.of (l.drop 5))).1.cds ++ [.i (EA (Mem.of l) (Key.of (l.drop 5))).2.1,.i (EA (Mem.of l) (Key.of (l.drop 5))).2.2]⟩
theorem fn83 (m : Mem) (a b : Int) : d83.fn [au m.slots,af m.heads,af m.free,af m.locks,.i m.now,.i a,.i b]=(EA m ⟨a,b⟩).1.cds ++ [.i (EA m ⟨a,b⟩).2.1,.i (EA m ⟨a,b⟩).2.2]:=by simp only [d83,mem_of,aA,jK,List.drop_succ_cons,List.drop_zero]
def l83 : List (Nat × Ct):=[(74,d74.ct),(97,d97.ct),(168,d168.ct),(161,d161.ct),(177,d177.ct)]
def z83 : Cx:={ T:=ttA,C:=sigs l83,F:=[],hints:=[⟨83,10,false,[(41,.lt),(12,.lt)],[],[],[],0,0,false⟩],sig:=s83}
def t83 : Tree :=
 (.call 74 [.var 0,.var 1,.var 2,.var 3,.var 4] 7
 (.ite (.not (.eq (.var 7) (.int 0)))
 (.ret [.nil,.nil,.nil,.nil,.int 0,.int 0,.var 7])
 (.call 97 [.var 5,.var 6,.len (.var 1)] 8
 (.ite (.not (.eq (.var 9) (.int 0)))
 (.ret [.nil,.nil,.nil,.nil,.int 0,.int 0,.var 9])
 (.call 168 [.var 0,.var 1,.var 2,.var 3,.var 4,.var 8] 10
 (.loop 12 [.int .i64,.int .i64] [.int 0,.int 0]
 (.ite (.lt (.var 14) (.len (.var 10)))
 (.need (.le (.int 0) (.var 14))
 (.need (.le (.int 0) (.cell (.var 10) (.var 14) 0))
 (.need (.lt (.cell (.var 10) (.var 14) 0) (.len (.var 0)))
 (.ite (.and (.eq (.cell (.var 0) (.cell (.var 10) (.var 14) 0) 1) (.var 5)) (.and (.eq (.cell (.var 0) (.cell (.var 10) (.var 14) 0) 2) (.var 6)) (.bool true)))
 (.call 161 [.var 0,.var 1,.var 2,.var 3,.var 4] 15
 (.call 177 [.var 15,.var 16,.var 17,.var 18,.var 19,.var 13,.cell (.var 10) (.var 14) 0,.var 8] 20
 (.ret [.var 20,.var 21,.var 22,.var 23,.var 24,.cell (.var 10) (.var 14) 0,.int 0])))
 (.need (.fit (.add (.cell (.var 10) (.var 14) 0) (.int 1)))
 (.need (.fit (.add (.var 14) (.int 1)))
 (.back 12 [.add (.cell (.var 10) (.var 14) 0) (.int 1),.add (.var 14) (.int 1)])))))))
 (.ret [.nil,.nil,.nil,.nil,.int 0,.int 0,.int 5]))))))))
theorem run83 : run z83 6000 [.code (Try.f83.body.getD .skip),.fin (bt z83 Try.f83.results.toList 50)] { fn:=83,tmps:=z83.sig.aM ++ List.replicate (Try.f83.ntmps - z83.sig.aM.length) (.v (.one .undef)),stk:=[],h:=z83.sig.h0,nx:=z83.sig.ins.length,known:=[]}=t83:=by kernel_rfl
theorem ok83 : cB Try.prog 83 d83.ct:=by
 refine aD (d:=d83) (Z:=z83) (Γ:=gam l83) (fn:=Try.f83) (c:=Try.f83.body.getD .skip) (bg tok mixed (all_cons ok74 (all_cons ok97 (all_cons ok168 (all_cons ok161 (all_cons ok177 all_nil))))) bh) Try.func83 (by kernel_rfl) (by kernel_rfl) rfl run83 fun E hk hp=>?_
 obtain ⟨hk0,hk1,hk2,hk3,hk4,hk5,hk6,_⟩:=hk
 obtain ⟨m,e0,e1,e2,e3,e4,b0,b1,b2,b3⟩:=cv (d0:=E 0) (d1:=E 1) (d2:=E 2) (d3:=E 3) (d4:=E 4) hk0 hk1 hk2 hk3 hk4
 obtain ⟨k,e5,e6⟩:=vM (d0:=E 5) (d1:=E 6) hk5 hk6
 have el : aH E d83.sig.ins.length=[au m.slots,af m.heads,af m.free,af m.locks,.i m.now,.i k.a,.i k.b]:=by
  show [E 0,E 1,E 2,E 3,E 4,E 5,E 6]=_
  rw [e0,e1,e2,e3,e4,e5,e6]
 rw [el] at hp
 rw [el]
 rw [Env.bJ el]
 clear el e0 e1 e2 e3 e4 e5 e6
 rw [fn83,eZ]
 unfold EA
 unfold t83
 refine ai d74 [.i (bU m)] rfl trivial (by simp only [nrm,xdn,reduceIte,Nat.reduceLT,Nat.reduceSub,Nat.reduceAdd,fn74]) (G0 (fun h=>aj ?_) (fun h=>?_))
 ·simp only [nrm,xdn,reduceIte,Nat.reduceLT,Nat.reduceSub,Nat.reduceAdd,Bool.not_eq_true'] at h ⊢
  rw [if_pos h];rfl
 simp only [nrm,xdn,reduceIte,Nat.reduceLT,Nat.reduceSub,Nat.reduceAdd,Bool.not_eq_false'] at h
 rw [if_neg (by omega)]
 have hm:=rM (by omega : bU m=0)
 have hns:=hm.ns
 have hnh:=hm.nh4
 have hnh1:=hm.nh1
 refine ai d97 [.i (bk m k),.i (aY k m.heads.length).2] rfl trivial (by simp only [nrm,xdn,reduceIte,Nat.reduceLT,Nat.reduceSub,Nat.reduceAdd,aw,fn97];rfl) (G0 (fun h1=>aj ?_) (fun h1=>?_))
 ·simp only [nrm,xdn,reduceIte,Nat.reduceLT,Nat.reduceSub,Nat.reduceAdd,Bool.not_eq_true'] at h1 ⊢
  rw [if_pos h1];rfl
 simp only [nrm,xdn,reduceIte,Nat.reduceLT,Nat.reduceSub,Nat.reduceAdd,Bool.not_eq_false'] at h1
 rw [if_neg (by omega)]
 have hk : Key.Ok k:=Decidable.byContradiction fun hk=>by rw [HL hk] at h1;cases h1
 have hbk:=vr (n:=m.heads.length) hk (by omega) (by omega)
 have hb1 : 0≤bk m k:=hbk.1
 have hb2 : bk m k < m.heads.length:=hbk.2.1
 generalize bk m k=b at *
 refine ai d168 [af (bP m b).1,.i (bP m b).2] rfl ?_ (by simp only [nrm,xdn,reduceIte,Nat.reduceLT,Nat.reduceSub,Nat.reduceAdd,fn168]) ?_
 ·simp only [nrm,xdn,reduceIte,Nat.reduceLT,Nat.reduceSub,Nat.reduceAdd]
  exact pre168 hm hb1 hb2
 obtain ⟨hl,hlm⟩:=oL hm b
 generalize (bP m b).1=l at *
 refine bO (fun ds=>∃ (i : Nat) (p : Int),ds=[.i p,.i i]∧i≤l.length∧p≤m.slots.length∧Bg m k b l 0=Bg m k b (l.drop i) p) (fun ds=>l.length - (ds.getD 1 .u).int.toNat) ⟨0,0,rfl,by omega,by omega,rfl⟩ ?_
 rintro ds - ⟨i,p,rfl,hi,hp',ht⟩
 refine G0 (fun hlt=>?_) (fun hge=>aj ?_)
 ·simp only [nrm,xdn,reduceIte,Nat.reduceLT,Nat.reduceSub,Nat.reduceAdd,aw] at hlt
  have ha:=hlm (l.getD i 0) (pA (by omega))
  have hraw : ((af l).rows.getD i []).getD 0 .u=.i (l.getD i 0):=iK (by omega)
  rw [K7 (by omega)] at ht
  generalize hag : l.getD i 0=a at *
  have ha0 : m.slots.getD a.toNat default=msl m a.toNat:=rfl
  refine ag (by simp only [nrm,xdn,reduceIte,Nat.reduceLT,Nat.reduceSub,Nat.reduceAdd];omega) (ag (by simp only [nrm,xdn,reduceIte,Nat.reduceLT,Nat.reduceSub,Nat.reduceAdd,Int.toNat_natCast,hraw];omega) (ag (by simp only [nrm,xdn,reduceIte,Nat.reduceLT,Nat.reduceSub,Nat.reduceAdd,Int.toNat_natCast,hraw,aN];omega) (G0 (fun c1=>?_) (fun c1=>?_))))
  ·simp only [nrm,xdn,reduceIte,Nat.reduceLT,Nat.reduceSub,Nat.reduceAdd,Int.toNat_natCast,hraw,cG,cF,ha0,Bool.and_eq_true,and_true] at c1
   have e : (msl m a.toNat).k=k:=by
    have e1:=c1.1
    have e2:=c1.2
    cases hx : (msl m a.toNat).k
    rw [hx] at e1 e2
    simp only at e1 e2
    rw [e1,e2]
   rw [if_pos e] at ht
   rw [ht]
   refine ai d161 m.cds rfl trivial (by simp only [nrm,xdn,reduceIte,Nat.reduceLT,Nat.reduceSub,Nat.reduceAdd,d161,mem_of,aA]) ?_
   refine ai d177 (cut m p a b).cds rfl ?_ (by simp only [nrm,xdn,reduceIte,Nat.reduceLT,Nat.reduceSub,Nat.reduceAdd,Int.toNat_natCast,hraw,Mem.cds,lca,fn177]) (aj ?_)
   ·simp only [nrm,xdn,reduceIte,Nat.reduceLT,Nat.reduceSub,Nat.reduceAdd,Int.toNat_natCast,hraw,Mem.cds,lca]
    exact pre177 hp' ha.1 ha.2 hb1 hb2
   ·simp only [nrm,xdn,reduceIte,Nat.reduceLT,Nat.reduceSub,Nat.reduceAdd,Int.toNat_natCast,hraw,Mem.cds,lca]
  ·simp only [nrm,xdn,reduceIte,Nat.reduceLT,Nat.reduceSub,Nat.reduceAdd,Int.toNat_natCast,hraw,cG,cF,ha0,Bool.and_eq_false_iff,or_false,Bool.true_eq_false] at c1
   have e : (msl m a.toNat).k≠k:=fun e=>by
    rw [e] at c1
    rcases c1 with c1 | c1 <;> exact c1 rfl
   rw [if_neg e] at ht
   refine G1 (by simp only [nrm,xdn,reduceIte,Nat.reduceLT,Nat.reduceSub,Nat.reduceAdd,Int.toNat_natCast,hraw];omega) (G1 (by simp only [nrm,xdn,reduceIte,Nat.reduceLT,Nat.reduceSub,Nat.reduceAdd];omega) (aV ⟨⟨i + 1,a + 1,?_,by omega,by omega,ht⟩,?_⟩))
   ·simp only [nrm,xdn,reduceIte,Nat.reduceLT,Nat.reduceSub,Nat.reduceAdd,Int.toNat_natCast,hraw];rfl
   ·simp only [nrm,xdn,reduceIte,Nat.reduceLT,Nat.reduceSub,Nat.reduceAdd];omega
 ·simp only [nrm,xdn,reduceIte,Nat.reduceLT,Nat.reduceSub,Nat.reduceAdd,aw] at hge
  rw [ht,List.drop_of_length_le (by omega)]
  rfl
end Go.Proofs.Ytpmamacjepcdmaa

namespace Go.Proofs.Ytpmamacjepcdmaa
open Go Go.Sy Go.RowKit
set_option linter.unusedSimpArgs false
set_option linter.unusedVariables false
theorem fn57c (a b : Int) : d57.fn [.i a,.i b]=(dx a b).1.cds ++ [.i (dx a b).2]:=rfl
theorem Hs : d60.fn [.l [],.l [],.l [],.l [],.i 0,.l [],.l [],.l [],.l [],.i 0]=[.b true]:=by
 have:=fn60 Mem.none Mem.none
 rw [decide_eq_true rfl] at this
 exact this
theorem H0 (m : Mem) : d60.fn [au m.slots,af m.heads,af m.free,af m.locks,.i m.now,au m.slots,af m.heads,af m.free,af m.locks,.i m.now]=[.b true]:=by
 rw [fn60,decide_eq_true rfl]
theorem Bz {l : List Int} {j : Nat} (h : j < l.length) : l.take (j + 1)=l.take j ++ [l.getD j 0]:=by
 rw [List.take_succ_eq_append_getElem h,List.getD_eq_getElem?_getD,List.getElem?_eq_getElem h,Option.getD_some]
def s71 : Sig:=⟨[.agg [.fz kS,.fz kI,.fz kI,.fz kI,.int .i64]],[.one (.own 78 kW),.one (.int .i64)]⟩
def d71 : DC:=⟨s71,fun _=>True,fun l=>[eM (jM (Mem.of l)).1,.i (jM (Mem.of l)).2]⟩
theorem fn71 (m : Mem) : d71.fn [au m.slots,af m.heads,af m.free,af m.locks,.i m.now]=[eM (jM m).1,.i (jM m).2]:=by simp only [d71,mem_of,aA]
def l71 : List (Nat × Ct):=[(74,d74.ct),(168,d168.ct)]
def z71 : Cx:={ T:=ttA,C:=sigs l71,F:=[],hints:=[⟨71,6,false,[(19,.lt),(5,.own 78 kW)],[],[],[],0,0,false⟩,⟨71,10,false,[(30,.lt),(5,.own 78 kW)],[],[],[],0,0,false⟩],sig:=s71}
def t71 : Tree :=
 (.call 74 [.var 0,.var 1,.var 2,.var 3,.var 4] 5
 (.ite (.not (.eq (.var 5) (.int 0)))
 (.ret [.nil,.var 5])
 (.loop 6 [.sl 32 [.int .i64,.int .i64,.int .i64,.int .i64],.int .i64] [.nil,.int 0]
 (.ite (.lt (.var 8) (.len (.var 1)))
 (.call 168 [.var 0,.var 1,.var 2,.var 3,.var 4,.var 8] 9
 (.loop 11 [.sl 32 [.int .i64,.int .i64,.int .i64,.int .i64],.int .i64] [.var 7,.int 0]
 (.ite (.lt (.var 13) (.len (.var 9)))
 (.need (.le (.int 0) (.var 13))
 (.need (.le (.int 0) (.cell (.var 9) (.var 13) 0))
 (.need (.lt (.cell (.var 9) (.var 13) 0) (.len (.var 0)))
 (.need (.le (.add (.len (.var 12)) (.int 1)) (.int 4398046511104))
 (.need (.fit (.add (.var 13) (.int 1)))
 (.back 11 [.app (.var 12) (.cons (.cell (.var 0) (.cell (.var 9) (.var 13) 0) 1) (.cons (.cell (.var 0) (.cell (.var 9) (.var 13) 0) 2) (.cons (.cell (.var 9) (.var 13) 0) (.cons (.cell (.var 0) (.cell (.var 9) (.var 13) 0) 3) .row0)))),.add (.var 13) (.int 1)]))))))
 (.need (.fit (.add (.var 8) (.int 1)))
 (.back 6 [.var 12,.add (.var 8) (.int 1)])))))
 (.ret [.var 7,.int 0])))))
theorem run71 : run z71 6000 [.code (Try.f71.body.getD .skip),.fin (bt z71 Try.f71.results.toList 50)] { fn:=71,tmps:=z71.sig.aM ++ List.replicate (Try.f71.ntmps - z71.sig.aM.length) (.v (.one .undef)),stk:=[],h:=z71.sig.h0,nx:=z71.sig.ins.length,known:=[]}=t71:=by kernel_rfl
theorem ok71 : cB Try.prog 71 d71.ct:=by
 refine aD (d:=d71) (Z:=z71) (Γ:=gam l71) (fn:=Try.f71) (c:=Try.f71.body.getD .skip) (bg tok mixed (all_cons ok74 (all_cons ok168 all_nil)) bh) Try.func71 (by kernel_rfl) (by kernel_rfl) rfl run71 fun E hk hp=>?_
 obtain ⟨hk0,hk1,hk2,hk3,hk4,_⟩:=hk
 obtain ⟨m,e0,e1,e2,e3,e4,b0,b1,b2,b3⟩:=cv (d0:=E 0) (d1:=E 1) (d2:=E 2) (d3:=E 3) (d4:=E 4) hk0 hk1 hk2 hk3 hk4
 have el : aH E d71.sig.ins.length=[au m.slots,af m.heads,af m.free,af m.locks,.i m.now]:=by
  show [E 0,E 1,E 2,E 3,E 4]=_
  rw [e0,e1,e2,e3,e4]
 rw [el] at hp
 rw [el]
 rw [Env.bJ el]
 clear el e0 e1 e2 e3 e4
 rw [fn71]
 unfold jM
 unfold t71
 refine ai d74 [.i (bU m)] rfl trivial (by simp only [nrm,xdn,reduceIte,Nat.reduceLT,Nat.reduceSub,Nat.reduceAdd,fn74]) (G0 (fun h=>aj ?_) (fun h=>?_))
 ·simp only [nrm,xdn,reduceIte,Nat.reduceLT,Nat.reduceSub,Nat.reduceAdd,Bool.not_eq_true'] at h ⊢
  rw [if_pos h];rfl
 simp only [nrm,xdn,reduceIte,Nat.reduceLT,Nat.reduceSub,Nat.reduceAdd,Bool.not_eq_false'] at h
 rw [if_neg (by omega)]
 have hm:=rM (by omega : bU m=0)
 have hns:=hm.ns
 have hnh:=hm.nh4
 refine bO (fun ds=>∃ (b : Nat) (acc : List cI),ds=[eM acc,.i b]∧b≤m.heads.length∧acc.length≤b * 12∧aq m=bC m (m.heads.length - b) b acc) (fun ds=>m.heads.length - (ds.getD 1 .u).int.toNat) ⟨0,[],rfl,by omega,by simp,rfl⟩ ?_
 rintro ds - ⟨b,acc,rfl,hb,hkl,ht⟩
 refine G0 (fun hlt=>?_) (fun hge=>aj ?_)
 ·simp only [nrm,xdn,reduceIte,Nat.reduceLT,Nat.reduceSub,Nat.reduceAdd,aw] at hlt
  have e1 : m.heads.length - b=m.heads.length - (b + 1) + 1:=by omega
  rw [e1] at ht
  refine ai d168 [af (bP m b).1,.i (bP m b).2] rfl ?_ (by simp only [nrm,xdn,reduceIte,Nat.reduceLT,Nat.reduceSub,Nat.reduceAdd,fn168]) ?_
  ·simp only [nrm,xdn,reduceIte,Nat.reduceLT,Nat.reduceSub,Nat.reduceAdd]
   exact pre168 hm (by omega) (by omega)
  obtain ⟨hl,hlm⟩:=oL hm b
  rw [bC] at ht
  generalize (bP m b).1=l at *
  refine bO (fun ds=>∃ (j : Nat) (acc' : List cI),ds=[eM acc',.i j]∧j≤l.length∧acc'=acc ++ (l.take j).map (bu m)) (fun ds=>l.length - (ds.getD 1 .u).int.toNat) ⟨0,acc,?_,by omega,by simp⟩ ?_
  ·simp only [nrm,xdn,reduceIte,Nat.reduceLT,Nat.reduceSub,Nat.reduceAdd];rfl
  rintro ds - ⟨j,acc',rfl,hj,hs⟩
  have hal : acc'.length=acc.length + j:=by rw [hs];simp;omega
  refine G0 (fun hlt'=>?_) (fun hge'=>?_)
  ·simp only [nrm,xdn,reduceIte,Nat.reduceLT,Nat.reduceSub,Nat.reduceAdd,aw] at hlt'
   have ha:=hlm (l.getD j 0) (pA (by omega))
   have hraw : ((af l).rows.getD j []).getD 0 .u=.i (l.getD j 0):=iK (by omega)
   have hnx : acc ++ (l.take (j + 1)).map (bu m)=acc' ++ [bu m (l.getD j 0)]:=by
    rw [Bz (by omega),hs,List.map_append,← List.append_assoc];rfl
   generalize hag : l.getD j 0=a at *
   have hk1 : ((au m.slots).rows.getD a.toNat []).getD 1 .u=.i (msl m a.toNat).k.a:=qc (by omega)
   have hk2 : ((au m.slots).rows.getD a.toNat []).getD 2 .u=.i (msl m a.toNat).k.b:=qb (by omega)
   have hk3 : ((au m.slots).rows.getD a.toNat []).getD 3 .u=.i (msl m a.toNat).till:=FO (by omega)
   refine ag (by simp only [nrm,xdn,reduceIte,Nat.reduceLT,Nat.reduceSub,Nat.reduceAdd];omega) (ag (by simp only [nrm,xdn,reduceIte,Nat.reduceLT,Nat.reduceSub,Nat.reduceAdd,Int.toNat_natCast,hraw];omega) (ag (by simp only [nrm,xdn,reduceIte,Nat.reduceLT,Nat.reduceSub,Nat.reduceAdd,Int.toNat_natCast,hraw,aN];omega) (eh (by simp only [nrm,xdn,reduceIte,Nat.reduceLT,Nat.reduceSub,Nat.reduceAdd,iT];omega) (G1 (by simp only [nrm,xdn,reduceIte,Nat.reduceLT,Nat.reduceSub,Nat.reduceAdd];omega) (aV ⟨⟨j + 1,_,?_,by omega,hnx.symm⟩,?_⟩)))))
   ·simp only [nrm,xdn,reduceIte,Nat.reduceLT,Nat.reduceSub,Nat.reduceAdd,Int.toNat_natCast,hraw,hk1,hk2,hk3,CD.row,List.headD_cons,Eb]
    rfl
   ·simp only [nrm,xdn,reduceIte,Nat.reduceLT,Nat.reduceSub,Nat.reduceAdd];omega
  ·simp only [nrm,xdn,reduceIte,Nat.reduceLT,Nat.reduceSub,Nat.reduceAdd,aw] at hge'
   have hjl : j=l.length:=by omega
   subst hjl
   rw [List.take_length] at hs
   refine G1 (by simp only [nrm,xdn,reduceIte,Nat.reduceLT,Nat.reduceSub,Nat.reduceAdd];omega) (fj (by decide) ⟨⟨b + 1,acc',?_,by omega,by omega,?_⟩,?_⟩)
   ·simp only [nrm,xdn,reduceIte,Nat.reduceLT,Nat.reduceSub,Nat.reduceAdd];rfl
   ·rw [ht,hs]
   ·simp only [nrm,xdn,reduceIte,Nat.reduceLT,Nat.reduceSub,Nat.reduceAdd];omega
 ·simp only [nrm,xdn,reduceIte,Nat.reduceLT,Nat.reduceSub,Nat.reduceAdd,aw] at hge ⊢
  rw [show m.heads.length - b=0 from by omega] at ht
  rw [ht];rfl
def s76 : Sig:=⟨[.agg [.fz kS,.fz kI,.fz kI,.fz kI,.int .i64]],[.one (.own 78 kW)]⟩
def d76 : DC:=⟨s76,fun l=>bU (Mem.of l)=0,fun l=>[eM (aq (Mem.of l))]⟩
theorem fn76 (m : Mem) : d76.fn [au m.slots,af m.heads,af m.free,af m.locks,.i m.now]=[eM (aq m)]:=by simp only [d76,mem_of,aA]
def l76 : List (Nat × Ct):=[(77,d77.ct)]
def z76 : Cx:={ T:=ttA,C:=sigs l76,F:=[],hints:=[⟨76,3,false,[(12,.lt),(3,.own 78 kW)],[],[],[],0,0,false⟩,⟨76,7,false,[(23,.lt),(3,.own 78 kW)],[],[],[],0,0,false⟩],sig:=s76}
def t76 : Tree :=
 (.loop 5 [.sl 32 [.int .i64,.int .i64,.int .i64,.int .i64],.int .i64] [.nil,.int 0]
 (.ite (.lt (.var 7) (.len (.var 1)))
 (.call 77 [.var 0,.var 1,.var 2,.var 3,.var 4,.var 7] 8
 (.loop 10 [.sl 32 [.int .i64,.int .i64,.int .i64,.int .i64],.int .i64] [.var 6,.int 0]
 (.ite (.lt (.var 12) (.len (.var 8)))
 (.need (.le (.int 0) (.var 12))
 (.need (.le (.int 0) (.cell (.var 8) (.var 12) 0))
 (.need (.lt (.cell (.var 8) (.var 12) 0) (.len (.var 0)))
 (.need (.le (.add (.len (.var 11)) (.int 1)) (.int 4398046511104))
 (.need (.fit (.add (.var 12) (.int 1)))
 (.back 10 [.app (.var 11) (.cons (.cell (.var 0) (.cell (.var 8) (.var 12) 0) 1) (.cons (.cell (.var 0) (.cell (.var 8) (.var 12) 0) 2) (.cons (.cell (.var 8) (.var 12) 0) (.cons (.cell (.var 0) (.cell (.var 8) (.var 12) 0) 3) .row0)))),.add (.var 12) (.int 1)]))))))
 (.need (.fit (.add (.var 7) (.int 1)))
 (.back 5 [.var 11,.add (.var 7) (.int 1)])))))
 (.ret [.var 6])))
theorem run76 : run z76 6000 [.code (Try.f76.body.getD .skip),.fin (bt z76 Try.f76.results.toList 50)] { fn:=76,tmps:=z76.sig.aM ++ List.replicate (Try.f76.ntmps - z76.sig.aM.length) (.v (.one .undef)),stk:=[],h:=z76.sig.h0,nx:=z76.sig.ins.length,known:=[]}=t76:=by kernel_rfl
theorem ok76 : cB Try.prog 76 d76.ct:=by
 refine aD (d:=d76) (Z:=z76) (Γ:=gam l76) (fn:=Try.f76) (c:=Try.f76.body.getD .skip) (bg tok mixed (all_cons ok77 all_nil) bh) Try.func76 (by kernel_rfl) (by kernel_rfl) rfl run76 fun E hk hp=>?_
 obtain ⟨hk0,hk1,hk2,hk3,hk4,_⟩:=hk
 obtain ⟨m,e0,e1,e2,e3,e4,b0,b1,b2,b3⟩:=cv (d0:=E 0) (d1:=E 1) (d2:=E 2) (d3:=E 3) (d4:=E 4) hk0 hk1 hk2 hk3 hk4
 have el : aH E d76.sig.ins.length=[au m.slots,af m.heads,af m.free,af m.locks,.i m.now]:=by
  show [E 0,E 1,E 2,E 3,E 4]=_
  rw [e0,e1,e2,e3,e4]
 rw [el] at hp
 rw [el]
 rw [Env.bJ el]
 clear el e0 e1 e2 e3 e4
 rw [fn76]
 simp only [d76,mem_of,aA] at hp
 unfold t76
 have hm:=rM hp
 have hns:=hm.ns
 have hnh:=hm.nh4
 refine bO (fun ds=>∃ (b : Nat) (acc : List cI),ds=[eM acc,.i b]∧b≤m.heads.length∧acc.length≤b * 12∧aq m=bC m (m.heads.length - b) b acc) (fun ds=>m.heads.length - (ds.getD 1 .u).int.toNat) ⟨0,[],rfl,by omega,by simp,rfl⟩ ?_
 rintro ds - ⟨b,acc,rfl,hb,hkl,ht⟩
 refine G0 (fun hlt=>?_) (fun hge=>aj ?_)
 ·simp only [nrm,xdn,reduceIte,Nat.reduceLT,Nat.reduceSub,Nat.reduceAdd,aw] at hlt
  have e1 : m.heads.length - b=m.heads.length - (b + 1) + 1:=by omega
  rw [e1] at ht
  obtain ⟨l,hc⟩:=JO hp (b:=b) (by omega)
  obtain ⟨q1,q2⟩:=H8 hc
  refine ai d77 [af l,.b true] rfl ?_ (by simp only [nrm,xdn,reduceIte,Nat.reduceLT,Nat.reduceSub,Nat.reduceAdd,fn77,q1]) ?_
  ·simp only [nrm,xdn,reduceIte,Nat.reduceLT,Nat.reduceSub,Nat.reduceAdd]
   exact pre77 hm (by omega) (by omega)
  obtain ⟨hl,hlm⟩:=rm hm hc
  rw [bC,q2] at ht
  dsimp only at ht
  refine bO (fun ds=>∃ (j : Nat) (acc' : List cI),ds=[eM acc',.i j]∧j≤l.length∧acc'=acc ++ (l.take j).map (bu m)) (fun ds=>l.length - (ds.getD 1 .u).int.toNat) ⟨0,acc,?_,by omega,by simp⟩ ?_
  ·simp only [nrm,xdn,reduceIte,Nat.reduceLT,Nat.reduceSub,Nat.reduceAdd];rfl
  rintro ds - ⟨j,acc',rfl,hj,hs⟩
  have hal : acc'.length=acc.length + j:=by rw [hs];simp;omega
  refine G0 (fun hlt'=>?_) (fun hge'=>?_)
  ·simp only [nrm,xdn,reduceIte,Nat.reduceLT,Nat.reduceSub,Nat.reduceAdd,aw] at hlt'
   have ha:=hlm (l.getD j 0) (pA (by omega))
   have hraw : ((af l).rows.getD j []).getD 0 .u=.i (l.getD j 0):=iK (by omega)
   have hnx : acc ++ (l.take (j + 1)).map (bu m)=acc' ++ [bu m (l.getD j 0)]:=by
    rw [Bz (by omega),hs,List.map_append,← List.append_assoc];rfl
   generalize hag : l.getD j 0=a at *
   have hk1 : ((au m.slots).rows.getD a.toNat []).getD 1 .u=.i (msl m a.toNat).k.a:=qc (by omega)
   have hk2 : ((au m.slots).rows.getD a.toNat []).getD 2 .u=.i (msl m a.toNat).k.b:=qb (by omega)
   have hk3 : ((au m.slots).rows.getD a.toNat []).getD 3 .u=.i (msl m a.toNat).till:=FO (by omega)
   refine ag (by simp only [nrm,xdn,reduceIte,Nat.reduceLT,Nat.reduceSub,Nat.reduceAdd];omega) (ag (by simp only [nrm,xdn,reduceIte,Nat.reduceLT,Nat.reduceSub,Nat.reduceAdd,Int.toNat_natCast,hraw];omega) (ag (by simp only [nrm,xdn,reduceIte,Nat.reduceLT,Nat.reduceSub,Nat.reduceAdd,Int.toNat_natCast,hraw,aN];omega) (eh (by simp only [nrm,xdn,reduceIte,Nat.reduceLT,Nat.reduceSub,Nat.reduceAdd,iT];omega) (G1 (by simp only [nrm,xdn,reduceIte,Nat.reduceLT,Nat.reduceSub,Nat.reduceAdd];omega) (aV ⟨⟨j + 1,_,?_,by omega,hnx.symm⟩,?_⟩)))))
   ·simp only [nrm,xdn,reduceIte,Nat.reduceLT,Nat.reduceSub,Nat.reduceAdd,Int.toNat_natCast,hraw,hk1,hk2,hk3,CD.row,List.headD_cons,Eb]
    rfl
   ·simp only [nrm,xdn,reduceIte,Nat.reduceLT,Nat.reduceSub,Nat.reduceAdd];omega
  ·simp only [nrm,xdn,reduceIte,Nat.reduceLT,Nat.reduceSub,Nat.reduceAdd,aw] at hge'
   have hjl : j=l.length:=by omega
   subst hjl
   rw [List.take_length] at hs
   refine G1 (by simp only [nrm,xdn,reduceIte,Nat.reduceLT,Nat.reduceSub,Nat.reduceAdd];omega) (fj (by decide) ⟨⟨b + 1,acc',?_,by omega,by omega,?_⟩,?_⟩)
   ·simp only [nrm,xdn,reduceIte,Nat.reduceLT,Nat.reduceSub,Nat.reduceAdd];rfl
   ·rw [ht,hs]
   ·simp only [nrm,xdn,reduceIte,Nat.reduceLT,Nat.reduceSub,Nat.reduceAdd];omega
 ·simp only [nrm,xdn,reduceIte,Nat.reduceLT,Nat.reduceSub,Nat.reduceAdd,aw] at hge ⊢
  rw [show m.heads.length - b=0 from by omega] at ht
  rw [ht];rfl
def hM0 : Mem:=⟨[default,default],[-1,-2],[1,0],[-1,-1],0⟩
def hM1 : Mem:=⟨[⟨1,⟨1,2⟩,5,false,0⟩,default],[-1,-2],[1],[-1,-1],0⟩
def hM2 : Mem:=⟨[⟨1,⟨1,2⟩,5,true,-2⟩,default],[-1,1],[1],[-1,-1],0⟩
def hM3 : Mem:=⟨[⟨1,⟨1,2⟩,5,true,-2⟩,default],[-1,-2],[1],[-1,-1],0⟩
theorem h0 : dx 2 2=(hM0,0):=by decide +kernel
theorem h1 : taken hM0 ⟨1,2⟩ 5=(hM1,0,0):=by decide +kernel
theorem h2 : linked hM1 0=(hM2,0):=by decide +kernel
theorem h3 : jM hM2=([⟨⟨1,2⟩,0,5⟩],0):=by decide +kernel
theorem h4 : EA hM2 ⟨1,2⟩=(hM3,0,0):=by decide +kernel
theorem h5 : slotsOf hM3 1=([],0):=by decide +kernel
def s73 : Sig:=⟨[],[.one (.bool)]⟩
def d73 : DC:=⟨s73,fun _=>True,fun _=>[.b true]⟩
def l73 : List (Nat × Ct):=[(57,d57.ct),(54,d54.ct),(82,d82.ct),(71,d71.ct),(83,d83.ct),(70,d70.ct),(75,d75.ct)]
def z73 : Cx:={ T:=ttA,C:=sigs l73,F:=[],hints:=[],sig:=s73}
def t73 : Tree :=
 (.call 57 [.int 2,.int 2] 0
 (.call 54 [.var 0,.var 1,.var 2,.var 3,.var 4,.int 1,.int 2,.int 5] 6
 (.call 82 [.var 6,.var 7,.var 8,.var 9,.var 10,.var 11] 13
 (.call 71 [.var 13,.var 14,.var 15,.var 16,.var 17] 19
 (.call 83 [.var 13,.var 14,.var 15,.var 16,.var 17,.int 1,.int 2] 21
 (.call 70 [.var 21,.var 22,.var 23,.var 24,.var 25,.int 1] 28
 (.ite (.eq (.var 5) (.int 0))
 (.ite (.eq (.var 12) (.int 0))
 (.ite (.eq (.var 18) (.int 0))
 (.ite (.eq (.var 20) (.int 0))
 (.ite (.eq (.var 27) (.int 0))
 (.ite (.eq (.var 29) (.int 0))
 (.call 75 [.var 19,.cons (.int 1) (.cons (.int 2) (.cons (.int 0) (.cons (.int 5) .row0)))] 30
 (.ite (.var 30)
 (.ite (.eq (.var 26) (.int 0))
 (.ite (.eq (.len (.var 28)) (.int 0))
 (.need (.lt (.int 0) (.len (.var 21)))
 (.ite (.cell (.var 21) (.int 0) 4)
 (.ret [.eq (.cell (.var 21) (.int 0) 5) (.int (-2))])
 (.ret [.bool false])))
 (.ret [.bool false]))
 (.ret [.bool false]))
 (.ret [.bool false])))
 (.ret [.bool false]))
 (.ret [.bool false]))
 (.ret [.bool false]))
 (.ret [.bool false]))
 (.ret [.bool false]))
 (.ret [.bool false]))))))))
theorem run73 : run z73 6000 [.code (Try.f73.body.getD .skip),.fin (bt z73 Try.f73.results.toList 50)] { fn:=73,tmps:=z73.sig.aM ++ List.replicate (Try.f73.ntmps - z73.sig.aM.length) (.v (.one .undef)),stk:=[],h:=z73.sig.h0,nx:=z73.sig.ins.length,known:=[]}=t73:=by kernel_rfl
theorem ok73 : cB Try.prog 73 d73.ct:=by
 refine aD (d:=d73) (Z:=z73) (Γ:=gam l73) (fn:=Try.f73) (c:=Try.f73.body.getD .skip) (bg tok mixed (all_cons ok57 (all_cons ok54 (all_cons ok82 (all_cons ok71 (all_cons ok83 (all_cons ok70 (all_cons ok75 all_nil))))))) bh) Try.func73 (by kernel_rfl) (by kernel_rfl) rfl run73 fun E hk hp=>?_
 clear hk
 have el : aH E d73.sig.ins.length=[]:=rfl
 rw [el] at hp
 rw [el]
 rw [Env.bJ el]
 clear el
 simp only [d73]
 unfold t73
 refine ai d57 (hM0.cds ++ [.i 0]) rfl trivial (by simp only [nrm,xdn,reduceIte,Nat.reduceLT,Nat.reduceSub,Nat.reduceAdd,fn57c,h0]) ?_
 refine ai d54 (hM1.cds ++ [.i 0,.i 0]) rfl trivial (by simp only [nrm,xdn,reduceIte,Nat.reduceLT,Nat.reduceSub,Nat.reduceAdd,Mem.cds,lca,fn54,h1]) ?_
 refine ai d82 (hM2.cds ++ [.i 0]) rfl trivial (by simp only [nrm,xdn,reduceIte,Nat.reduceLT,Nat.reduceSub,Nat.reduceAdd,Mem.cds,lca,fn82,h2]) ?_
 refine ai d71 [eM [⟨⟨1,2⟩,0,5⟩],.i 0] rfl trivial (by simp only [nrm,xdn,reduceIte,Nat.reduceLT,Nat.reduceSub,Nat.reduceAdd,Mem.cds,lca,fn71,h3]) ?_
 refine ai d83 (hM3.cds ++ [.i 0,.i 0]) rfl trivial (by simp only [nrm,xdn,reduceIte,Nat.reduceLT,Nat.reduceSub,Nat.reduceAdd,Mem.cds,lca,fn83,h4]) ?_
 refine ai d70 [af [],.i 0] rfl trivial (by simp only [nrm,xdn,reduceIte,Nat.reduceLT,Nat.reduceSub,Nat.reduceAdd,Mem.cds,lca,fn70,h5]) ?_
 refine Bf (by simp only [nrm,xdn,reduceIte,Nat.reduceLT,Nat.reduceSub,Nat.reduceAdd,Mem.cds,lca]) ?_
 refine Bf (by simp only [nrm,xdn,reduceIte,Nat.reduceLT,Nat.reduceSub,Nat.reduceAdd,Mem.cds,lca]) ?_
 refine Bf (by simp only [nrm,xdn,reduceIte,Nat.reduceLT,Nat.reduceSub,Nat.reduceAdd,Mem.cds,lca]) ?_
 refine Bf (by simp only [nrm,xdn,reduceIte,Nat.reduceLT,Nat.reduceSub,Nat.reduceAdd,Mem.cds,lca]) ?_
 refine Bf (by simp only [nrm,xdn,reduceIte,Nat.reduceLT,Nat.reduceSub,Nat.reduceAdd,Mem.cds,lca]) ?_
 refine Bf (by simp only [nrm,xdn,reduceIte,Nat.reduceLT,Nat.reduceSub,Nat.reduceAdd,Mem.cds,lca]) ?_
 refine ai d75 [.b true] rfl trivial ?_ (Bf (by simp only [nrm,xdn,reduceIte,Nat.reduceLT,Nat.reduceSub,Nat.reduceAdd]) ?_)
 ·simp only [nrm,xdn,reduceIte,Nat.reduceLT,Nat.reduceSub,Nat.reduceAdd,Mem.cds,lca]
  rfl
 refine Bf (by simp only [nrm,xdn,reduceIte,Nat.reduceLT,Nat.reduceSub,Nat.reduceAdd,Mem.cds,lca]) ?_
 refine Bf (by simp only [nrm,xdn,reduceIte,Nat.reduceLT,Nat.reduceSub,Nat.reduceAdd,Mem.cds,lca,aw];rfl) ?_
 refine ag (by simp only [nrm,xdn,reduceIte,Nat.reduceLT,Nat.reduceSub,Nat.reduceAdd,Mem.cds,lca,aN];decide) (Bf (by simp only [nrm,xdn,reduceIte,Nat.reduceLT,Nat.reduceSub,Nat.reduceAdd,Mem.cds,lca];rfl) (aj ?_))
 simp only [nrm,xdn,reduceIte,Nat.reduceLT,Nat.reduceSub,Nat.reduceAdd,Mem.cds,lca]
 rfl
end Go.Proofs.Ytpmamacjepcdmaa
