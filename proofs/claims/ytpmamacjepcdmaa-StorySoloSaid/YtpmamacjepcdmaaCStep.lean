import Derived.Test.YtpmamacjepcdmaaCChain
namespace Go.Proofs.Ytpmamacjepcdmaa
open Go Go.Sy Go.RowKit
set_option linter.unusedSimpArgs false
set_option linter.unusedVariables false
theorem fn97 (k : Key) (n : Int) : d97.fn [.i k.a,.i k.b,.i n]=[.i (aY k n).1,.i (aY k n).2]:=by
 simp only [d97,jK,eZ,List.getD_cons_succ,List.getD_cons_zero,CD.aR]
def s74 : Sig:=⟨[.agg [.fz kS,.fz kI,.fz kI,.fz kI,.int .i64]],[.one (.int .i64)]⟩
def d74 : DC:=⟨s74,fun _=>True,fun l=>[.i (bU (Mem.of l))]⟩
theorem fn74 (m : Mem) : d74.fn [au m.slots,af m.heads,af m.free,af m.ae,.i m.now]=[.i (bU m)]:=by simp only [d74,mem_of,aA]
def l74 : List (Nat × Ct):=[(51,d51.ct),(168,d168.ct),(97,d97.ct)]
def z74 : Cx:={ T:=ttA,C:=sigs l74,F:=[],hints:=[⟨74,6,false,[(22,.lt)],[],[],[0],0,0,false⟩,⟨74,12,false,[(36,.lt)],[],[],[0],0,0,false⟩],sig:=s74}
def t74 : Tree :=
 (.call 51 [.var 0,.var 1,.var 2,.var 3,.var 4] 5
 (.ite (.not (.eq (.var 5) (.int 0)))
 (.ret [.var 5])
 (.loop 6 [.int .i64,.sl 0 [.int .i64,.int .i64,.bool]] [.int 0,.nil]
 (.ite (.lt (.var 7) (.len (.var 1)))
 (.call 168 [.var 0,.var 1,.var 2,.var 3,.var 4,.var 7] 9
 (.ite (.not (.eq (.var 10) (.int 0)))
 (.ret [.var 10])
 (.loop 11 [.int .i64,.sl 0 [.int .i64,.int .i64,.bool]] [.int 0,.var 8]
 (.ite (.lt (.var 12) (.len (.var 9)))
 (.need (.le (.int 0) (.var 12))
 (.need (.le (.int 0) (.cell (.var 9) (.var 12) 0))
 (.need (.lt (.cell (.var 9) (.var 12) 0) (.len (.var 0)))
 (.ite (.eq (.cell (.var 0) (.cell (.var 9) (.var 12) 0) 0) (.int 0))
 (.ret [.int 5])
 (.ite (.not (.cell (.var 0) (.cell (.var 9) (.var 12) 0) 4))
 (.ret [.int 5])
 (.call 97 [.cell (.var 0) (.cell (.var 9) (.var 12) 0) 1,.cell (.var 0) (.cell (.var 9) (.var 12) 0) 2,.len (.var 1)] 14
 (.ite (.not (.eq (.var 14) (.var 7)))
 (.ret [.int 4])
 (.ite (.look (.var 13) (.cons (.cell (.var 0) (.cell (.var 9) (.var 12) 0) 1) (.cons (.cell (.var 0) (.cell (.var 9) (.var 12) 0) 2) .row0)) (.bool false) 2 2)
 (.ret [.int 6])
 (.need (.fit (.add (.var 12) (.int 1)))
 (.back 11 [.add (.var 12) (.int 1),.app (.cons (.cell (.var 0) (.cell (.var 9) (.var 12) 0) 1) (.cons (.cell (.var 0) (.cell (.var 9) (.var 12) 0) 2) (.cons (.bool true) .row0))) (.var 13)]))))))))))
 (.need (.fit (.add (.var 7) (.int 1)))
 (.back 6 [.add (.var 7) (.int 1),.var 13]))))))
 (.ret [.int 0])))))
theorem run74 : run z74 6000 [.code (Try.f74.body.getD .skip),.fin (bt z74 Try.f74.results.toList 50)] { fn:=74,tmps:=z74.sig.aM ++ List.replicate (Try.f74.ntmps - z74.sig.aM.length) (.v (.one .undef)),stk:=[],h:=z74.sig.h0,nx:=z74.sig.ins.length,known:=[]}=t74:=by kernel_rfl
theorem ok74 : cB Try.prog 74 d74.ct:=by
 refine aD (d:=d74) (Z:=z74) (Γ:=gam l74) (fn:=Try.f74) (c:=Try.f74.body.getD .skip) (bg tok mixed (all_cons ok51 (all_cons ok168 (all_cons ok97 all_nil))) bh) Try.func74 (by kernel_rfl) (by kernel_rfl) rfl run74 fun E hk hp=>?_
 obtain ⟨hk0,hk1,hk2,hk3,hk4,_⟩:=hk
 obtain ⟨m,e0,e1,e2,e3,e4,b0,b1,b2,b3⟩:=cv (d0:=E 0) (d1:=E 1) (d2:=E 2) (d3:=E 3) (d4:=E 4) hk0 hk1 hk2 hk3 hk4
 have el : aH E d74.sig.ins.length=[au m.slots,af m.heads,af m.free,af m.ae,.i m.now]:=by
  show [E 0,E 1,E 2,E 3,E 4]=_
  rw [e0,e1,e2,e3,e4]
 rw [el] at hp
 rw [el]
 rw [Env.bJ el]
 clear el e0 e1 e2 e3 e4
 rw [fn74]
 unfold bU
 unfold t74
 refine ai d51 [.i (cP m)] rfl trivial (by simp only [nrm,xdn,reduceIte,Nat.reduceLT,Nat.reduceSub,Nat.reduceAdd,d51,mem_of,aA]) (G0 (fun h=>aj ?_) (fun h=>?_))
 ·simp only [nrm,xdn,reduceIte,Nat.reduceLT,Nat.reduceSub,Nat.reduceAdd,Bool.not_eq_true'] at h ⊢
  rw [if_pos h]
 simp only [nrm,xdn,reduceIte,Nat.reduceLT,Nat.reduceSub,Nat.reduceAdd,Bool.not_eq_false'] at h
 rw [if_neg (by omega)]
 have hm:=(dT m).1 h
 have hns:=hm.ns
 have hnh:=hm.nh4
 have hnh1:=hm.nh1
 refine bO (fun ds=>∃ (b : Nat) (ks : List Key),ds=[.i b,Aw ks]∧b≤m.heads.length∧dk m m.heads.length 0 []=dk m (m.heads.length - b) b ks) (fun ds=>m.heads.length - (ds.getD 0 .u).int.toNat) ⟨0,[],rfl,by omega,rfl⟩ ?_
 rintro ds - ⟨b,ks,rfl,hb,ht⟩
 refine G0 (fun hlt=>?_) (fun hge=>aj ?_)
 ·simp only [nrm,xdn,reduceIte,Nat.reduceLT,Nat.reduceSub,Nat.reduceAdd,aw] at hlt
  have e1 : m.heads.length - b=m.heads.length - (b + 1) + 1:=by omega
  rw [e1] at ht
  refine ai d168 [af (bP m b).1,.i (bP m b).2] rfl ?_ (by simp only [nrm,xdn,reduceIte,Nat.reduceLT,Nat.reduceSub,Nat.reduceAdd,fn168]) ?_
  ·simp only [nrm,xdn,reduceIte,Nat.reduceLT,Nat.reduceSub,Nat.reduceAdd]
   exact pre168 hm (by omega) (by omega)
  cases hc : cQ m b with
  | none =>
   have hr : bP m b=([],4):=by unfold bP;rw [hc]
   rw [hr]
   refine Bf (by simp only [nrm,xdn,reduceIte,Nat.reduceLT,Nat.reduceSub,Nat.reduceAdd,Bool.not_eq_true'];decide) (aj ?_)
   simp only [nrm,xdn,reduceIte,Nat.reduceLT,Nat.reduceSub,Nat.reduceAdd]
   rw [ht,mF hc]
  | some l =>
   have hr : bP m b=(l,0):=by unfold bP;rw [hc]
   rw [hr]
   refine Fk (by simp only [nrm,xdn,reduceIte,Nat.reduceLT,Nat.reduceSub,Nat.reduceAdd,decide_true,Bool.not_true,beq_self_eq_true]) ?_
   obtain ⟨hl,hlm⟩:=rm hm hc
   rw [mE hc] at ht
   refine bO (fun ds=>∃ (j : Nat) (ks' : List Key),ds=[.i j,Aw ks']∧j≤l.length∧bQ m b l ks=bQ m b (l.drop j) ks') (fun ds=>l.length - (ds.getD 0 .u).int.toNat) ⟨0,ks,?_,by omega,rfl⟩ ?_
   ·simp only [nrm,xdn,reduceIte,Nat.reduceLT,Nat.reduceSub,Nat.reduceAdd];rfl
   rintro ds - ⟨j,ks',rfl,hj,hs⟩
   refine G0 (fun hlt'=>?_) (fun hge'=>?_)
   ·simp only [nrm,xdn,reduceIte,Nat.reduceLT,Nat.reduceSub,Nat.reduceAdd,aw] at hlt'
    have ha:=hlm (l.getD j 0) (pA (by omega))
    rw [tU (by omega)] at hs
    have bad : ∀ e : Int,e≠0→eY m b ks' (l.getD j 0)=e→[CD.i e]=[CD.i (dk m m.heads.length 0 [])]:=fun e he hx=>by
     rw [hx,if_pos he] at hs
     rw [ht,hs,if_pos he]
    generalize hag : l.getD j 0=a at *
    have hk1 : ((au m.slots).rows.getD a.toNat []).getD 1 .u=.i (msl m a.toNat).k.a:=qc (by omega)
    have hk2 : ((au m.slots).rows.getD a.toNat []).getD 2 .u=.i (msl m a.toNat).k.b:=qb (by omega)
    have hm0 : m.slots.getD a.toNat default=msl m a.toNat:=rfl
    refine ag (by simp only [nrm,xdn,reduceIte,Nat.reduceLT,Nat.reduceSub,Nat.reduceAdd];omega) (ag (by simp only [nrm,xdn,reduceIte,Nat.reduceLT,Nat.reduceSub,Nat.reduceAdd,Int.toNat_natCast,aG,hag];omega) (ag (by simp only [nrm,xdn,reduceIte,Nat.reduceLT,Nat.reduceSub,Nat.reduceAdd,Int.toNat_natCast,aG,hag,aN];omega) (G0 (fun c1=>aj ?_) (fun c1=>G0 (fun c2=>aj ?_) (fun c2=>?_)))))
    ·simp only [nrm,xdn,reduceIte,Nat.reduceLT,Nat.reduceSub,Nat.reduceAdd,Int.toNat_natCast,aG,hag,cX,hm0] at c1 ⊢
     exact bad 5 (by decide) (by unfold eY;rw [if_pos (.inl c1)])
    ·simp only [nrm,xdn,reduceIte,Nat.reduceLT,Nat.reduceSub,Nat.reduceAdd,Int.toNat_natCast,aG,hag,cx,hm0,Bool.not_eq_true'] at c2 ⊢
     exact bad 5 (by decide) (by unfold eY;rw [if_pos (.inr c2)])
    simp only [nrm,xdn,reduceIte,Nat.reduceLT,Nat.reduceSub,Nat.reduceAdd,Int.toNat_natCast,aG,hag,cX,cx,hm0,Bool.not_eq_false'] at c1 c2
    have hno : ¬ ((msl m a.toNat).refs=0∨(msl m a.toNat).inn=false):=by
     rintro (h | h)
     ·exact c1 h
     ·rw [h] at c2;cases c2
    refine ai d97 [.i (aY (msl m a.toNat).k m.heads.length).1,.i (aY (msl m a.toNat).k m.heads.length).2] rfl trivial (by simp only [nrm,xdn,reduceIte,Nat.reduceLT,Nat.reduceSub,Nat.reduceAdd,Int.toNat_natCast,aG,hag,hk1,hk2,aw,fn97]) (G0 (fun c3=>aj ?_) (fun c3=>G0 (fun c4=>aj ?_) (fun c4=>?_)))
    ·simp only [nrm,xdn,reduceIte,Nat.reduceLT,Nat.reduceSub,Nat.reduceAdd,Int.toNat_natCast,Bool.not_eq_true'] at c3 ⊢
     exact bad 4 (by decide) (by unfold eY;rw [if_neg hno,if_pos c3])
    ·simp only [nrm,xdn,reduceIte,Nat.reduceLT,Nat.reduceSub,Nat.reduceAdd,Int.toNat_natCast,aG,hag,hk1,hk2,CD.row,List.headD_cons,ou,eZ,Bool.not_eq_false'] at c3 c4 ⊢
     exact bad 6 (by decide) (by unfold eY;rw [if_neg hno,if_neg (by omega),if_pos c4])
    simp only [nrm,xdn,reduceIte,Nat.reduceLT,Nat.reduceSub,Nat.reduceAdd,Int.toNat_natCast,aG,hag,hk1,hk2,CD.row,List.headD_cons,ou,eZ,Bool.not_eq_false'] at c3 c4
    have hlk : eY m b ks' a=0:=by unfold eY;rw [if_neg hno,if_neg (by omega),if_neg c4]
    rw [if_neg (by omega)] at hs
    refine G1 (by simp only [nrm,xdn,reduceIte,Nat.reduceLT,Nat.reduceSub,Nat.reduceAdd];omega) (aV ⟨⟨j + 1,(msl m a.toNat).k :: ks',?_,by omega,hs⟩,?_⟩)
    ·simp only [nrm,xdn,reduceIte,Nat.reduceLT,Nat.reduceSub,Nat.reduceAdd,Int.toNat_natCast,aG,hag,hk1,hk2,CD.row,List.headD_cons]
     rfl
    ·simp only [nrm,xdn,reduceIte,Nat.reduceLT,Nat.reduceSub,Nat.reduceAdd];omega
   ·simp only [nrm,xdn,reduceIte,Nat.reduceLT,Nat.reduceSub,Nat.reduceAdd,aw] at hge'
    have hs' : bQ m b l ks=(0,ks'):=by rw [hs,List.drop_of_length_le (by omega)];rfl
    rw [hs'] at ht
    refine G1 (by simp only [nrm,xdn,reduceIte,Nat.reduceLT,Nat.reduceSub,Nat.reduceAdd];omega) (fj (by decide) ⟨⟨b + 1,ks',?_,by omega,?_⟩,?_⟩)
    ·simp only [nrm,xdn,reduceIte,Nat.reduceLT,Nat.reduceSub,Nat.reduceAdd];rfl
    ·rw [ht];rfl
    ·simp only [nrm,xdn,reduceIte,Nat.reduceLT,Nat.reduceSub,Nat.reduceAdd];omega
 ·simp only [nrm,xdn,reduceIte,Nat.reduceLT,Nat.reduceSub,Nat.reduceAdd,aw] at hge
  rw [ht,show m.heads.length - b=0 from by omega]
  rfl
def slotsOf (m : Mem) (b : Int) : List Int × Int:=if cP m≠0 then ([],cP m) else if b < 0∨m.heads.length≤b then ([],5) else bP m b
end Go.Proofs.Ytpmamacjepcdmaa

namespace Go.Proofs.Ytpmamacjepcdmaa
open Go Go.Sy Go.RowKit
set_option linter.unusedSimpArgs false
set_option linter.unusedVariables false
def jc (n : Int) (s : bp) : bp:={ s with inn:=true,next:=n}
def og (n : Int) (s : bp) : bp:={ s with next:=n}
def link (m : Mem) (a b : Int) : Mem:={ m with slots:=m.slots.modify a.toNat (jc (aO m b)),heads:=m.heads.set b.toNat (a + 1)}
def cut (m : Mem) (prev a b : Int) : Mem :=
 if 0 < prev then { m with slots:=m.slots.modify (prev - 1).toNat (og (msl m a.toNat).next)} else { m with heads:=m.heads.set b.toNat (msl m a.toNat).next}
def bk (m : Mem) (k : Key) : Int:=(aY k m.heads.length).1
theorem vr {k : Key} {n : Int} (hk : Key.Ok k) (h1 : 1≤n) (h2 : n≤4) : 0≤(aY k n).1∧(aY k n).1 < n∧(aY k n).2=0:=by
 have hb:=uQ hk.1 hk.2.1 hk.2.2.1 hk.2.2.2
 obtain ⟨k1,k2,k3,k4⟩:=id hk
 unfold aY
 rw [if_pos hk,if_neg (by omega)]
 exact ⟨Int.tmod_nonneg _ (by omega),Int.tmod_lt_of_pos _ (by omega),rfl⟩
theorem oL {m : Mem} (hm : bB m) (b : Int) : (bP m b).1.length≤m.slots.length∧∀ a∈(bP m b).1,0≤a∧a < m.slots.length:=by
 unfold bP
 cases hc : cQ m b with
 | none=>exact ⟨by simp,fun _ h=>by cases h⟩
 | some l=>exact rm hm hc
def E3 (m : Mem) (a : Int) (k : Int) : Bool:=decide (k=a∨(msl m k.toNat).k=(msl m a.toNat).k)
def linked (m : Mem) (a : Int) : Mem × Int :=
 if bU m≠0 then (Mem.none,bU m) else if a < 0∨m.slots.length≤a then (Mem.none,5) else if (msl m a.toNat).refs=0 then (Mem.none,8)
 else if (bP m (bk m (msl m a.toNat).k)).1.any (E3 m a)=true then (Mem.none,6) else (link m a (bk m (msl m a.toNat).k),0)
def Bg (m : Mem) (k : Key) (b : Int) : List Int→Int→Mem × Int × Int
 | [],_=>(Mem.none,0,5)
 | a :: l,prev=>if (msl m a.toNat).k=k then (cut m prev a b,a,0) else Bg m k b l (a + 1)
def EA (m : Mem) (k : Key) : Mem × Int × Int :=
 if bU m≠0 then (Mem.none,0,bU m) else if (aY k m.heads.length).2≠0 then (Mem.none,0,(aY k m.heads.length).2) else Bg m k (bk m k) (bP m (bk m k)).1 0
def bu (m : Mem) (a : Int) : cI:=⟨(msl m a.toNat).k,a,(msl m a.toNat).till⟩
def bC (m : Mem) : Nat→Nat→List cI→List cI
 | 0,_,acc=>acc
 | n + 1,b,acc=>bC m n (b + 1) (acc ++ (bP m b).1.map (bu m))
def aq (m : Mem) : List cI:=bC m m.heads.length 0 []
def jM (m : Mem) : List cI × Int:=if bU m≠0 then ([],bU m) else (aq m,0)
theorem rM {m : Mem} (h : bU m=0) : bB m:=by
 unfold bU at h
 split at h
 ·rename_i hx;exact absurd h hx
 ·rename_i hx;exact (dT m).1 (Classical.not_not.1 hx)
def s176 : Sig:=⟨[.ptr [.own 52 kS,.own 3 kI,.own 3 kI,.own 3 kI,.int .i64],.one (.int .i64),.one (.int .i64)],[]⟩
def d176 : DC:=⟨s176,fun l=>0≤(l.getD 5 .u).int∧(l.getD 5 .u).int < (Mem.of l).slots.length∧0≤(l.getD 6 .u).int∧(l.getD 6 .u).int < (Mem.of l).heads.length,fun l=>(link (Mem.of l) (l.getD 5 .u).int (l.getD 6 .u).int).cds⟩
theorem fn176 (m : Mem) (a b : Int) : d176.fn [au m.slots,af m.heads,af m.free,af m.ae,.i m.now,.i a,.i b]=(link m a b).cds:=by simp only [d176,mem_of,aA,List.getD_cons_zero,List.getD_cons_succ,CD.aR]
def l176 : List (Nat × Ct):=[]
def z176 : Cx:={ T:=ttA,C:=sigs l176,F:=[],hints:=[],sig:=s176}
def t176 : Tree :=
 (.need (.le (.int 0) (.var 6))
 (.need (.lt (.var 6) (.len (.var 1)))
 (.need (.le (.int 0) (.var 5))
 (.need (.lt (.var 5) (.len (.var 0)))
 (.need (.fit (.add (.var 5) (.int 1)))
 (.ret [.set (.set (.var 0) (.var 5) 5 (.cell (.var 1) (.var 6) 0)) (.var 5) 4 (.bool true),.set (.var 1) (.var 6) 0 (.add (.var 5) (.int 1)),.var 2,.var 3,.var 4]))))))
theorem run176 : run z176 6000 [.code (Try.f176.body.getD .skip),.fin (bt z176 Try.f176.results.toList 50)] { fn:=176,tmps:=z176.sig.aM ++ List.replicate (Try.f176.ntmps - z176.sig.aM.length) (.v (.one .undef)),stk:=[],h:=z176.sig.h0,nx:=z176.sig.ins.length,known:=[]}=t176:=by kernel_rfl
theorem ok176 : cB Try.prog 176 d176.ct:=by
 refine aD (d:=d176) (Z:=z176) (Γ:=gam l176) (fn:=Try.f176) (c:=Try.f176.body.getD .skip) (bg tok mixed all_nil bh) Try.func176 (by kernel_rfl) (by kernel_rfl) rfl run176 fun E hk hp=>?_
 obtain ⟨hk0,hk1,hk2,hk3,hk4,hk5,hk6,_⟩:=hk
 obtain ⟨m,e0,e1,e2,e3,e4,b0,b1,b2,b3⟩:=cv (d0:=E 0) (d1:=E 1) (d2:=E 2) (d3:=E 3) (d4:=E 4) hk0 hk1 hk2 hk3 hk4
 obtain ⟨x,e5⟩:=ok_int (d:=E 5) hk5
 obtain ⟨x2,e6⟩:=ok_int (d:=E 6) hk6
 have el : aH E d176.sig.ins.length=[au m.slots,af m.heads,af m.free,af m.ae,.i m.now,.i x,.i x2]:=by
  show [E 0,E 1,E 2,E 3,E 4,E 5,E 6]=_
  rw [e0,e1,e2,e3,e4,e5,e6]
 rw [el] at hp
 rw [el]
 rw [Env.bJ el]
 clear el e0 e1 e2 e3 e4 e5 e6
 rw [fn176]
 simp only [d176,mem_of,aA,List.getD_cons_zero,List.getD_cons_succ,CD.aR] at hp
 obtain ⟨h1,h2,h3,h4⟩:=hp
 unfold t176
 refine ag (by simp only [nrm,xdn,reduceIte,Nat.reduceLT,Nat.reduceSub,Nat.reduceAdd];omega) (ag (by simp only [nrm,xdn,reduceIte,Nat.reduceLT,Nat.reduceSub,Nat.reduceAdd,aw];omega) (ag (by simp only [nrm,xdn,reduceIte,Nat.reduceLT,Nat.reduceSub,Nat.reduceAdd];omega) (ag (by simp only [nrm,xdn,reduceIte,Nat.reduceLT,Nat.reduceSub,Nat.reduceAdd,aN];omega) (G1 (by simp only [nrm,xdn,reduceIte,Nat.reduceLT,Nat.reduceSub,Nat.reduceAdd];omega) (aj ?_)))))
 simp only [nrm,xdn,reduceIte,Nat.reduceLT,Nat.reduceSub,Nat.reduceAdd,iK (show x2.toNat < m.heads.length by omega),CV,CW,iG,aC,Mem.cds]
 rfl
def s177 : Sig:=⟨[.ptr [.own 52 kS,.own 3 kI,.own 3 kI,.own 3 kI,.int .i64],.one (.int .i64),.one (.int .i64),.one (.int .i64)],[]⟩
def d177 : DC:=⟨s177,fun l=>(l.getD 5 .u).int≤(Mem.of l).slots.length∧0≤(l.getD 6 .u).int∧(l.getD 6 .u).int < (Mem.of l).slots.length∧0≤(l.getD 7 .u).int∧(l.getD 7 .u).int < (Mem.of l).heads.length,fun l=>(cut (Mem.of l) (l.getD 5 .u).int (l.getD 6 .u).int (l.getD 7 .u).int).cds⟩
theorem fn177 (m : Mem) (p a b : Int) : d177.fn [au m.slots,af m.heads,af m.free,af m.ae,.i m.now,.i p,.i a,.i b]=(cut m p a b).cds:=by simp only [d177,mem_of,aA,List.getD_cons_zero,List.getD_cons_succ,CD.aR]
theorem pre177 {m : Mem} {p a b : Int} (h1 : p≤m.slots.length) (h2 : 0≤a) (h3 : a < m.slots.length) (h4 : 0≤b) (h5 : b < m.heads.length) : d177.pre [au m.slots,af m.heads,af m.free,af m.ae,.i m.now,.i p,.i a,.i b]:=by
 simp only [d177,mem_of,aA,List.getD_cons_zero,List.getD_cons_succ,CD.aR]
 exact ⟨h1,h2,h3,h4,h5⟩
def l177 : List (Nat × Ct):=[]
def z177 : Cx:={ T:=ttA,C:=sigs l177,F:=[],hints:=[],sig:=s177}
def t177 : Tree :=
 (.ite (.lt (.int 0) (.var 5))
 (.need (.fit (.sub (.var 5) (.int 1)))
 (.need (.le (.int 0) (.var 6))
 (.need (.lt (.var 6) (.len (.var 0)))
 (.need (.le (.int 0) (.sub (.var 5) (.int 1)))
 (.need (.lt (.sub (.var 5) (.int 1)) (.len (.var 0)))
 (.ret [.set (.var 0) (.sub (.var 5) (.int 1)) 5 (.cell (.var 0) (.var 6) 5),.var 1,.var 2,.var 3,.var 4]))))))
 (.need (.le (.int 0) (.var 6))
 (.need (.lt (.var 6) (.len (.var 0)))
 (.need (.le (.int 0) (.var 7))
 (.need (.lt (.var 7) (.len (.var 1)))
 (.ret [.var 0,.set (.var 1) (.var 7) 0 (.cell (.var 0) (.var 6) 5),.var 2,.var 3,.var 4]))))))
theorem run177 : run z177 6000 [.code (Try.f177.body.getD .skip),.fin (bt z177 Try.f177.results.toList 50)] { fn:=177,tmps:=z177.sig.aM ++ List.replicate (Try.f177.ntmps - z177.sig.aM.length) (.v (.one .undef)),stk:=[],h:=z177.sig.h0,nx:=z177.sig.ins.length,known:=[]}=t177:=by kernel_rfl
theorem ok177 : cB Try.prog 177 d177.ct:=by
 refine aD (d:=d177) (Z:=z177) (Γ:=gam l177) (fn:=Try.f177) (c:=Try.f177.body.getD .skip) (bg tok mixed all_nil bh) Try.func177 (by kernel_rfl) (by kernel_rfl) rfl run177 fun E hk hp=>?_
 obtain ⟨hk0,hk1,hk2,hk3,hk4,hk5,hk6,hk7,_⟩:=hk
 obtain ⟨m,e0,e1,e2,e3,e4,b0,b1,b2,b3⟩:=cv (d0:=E 0) (d1:=E 1) (d2:=E 2) (d3:=E 3) (d4:=E 4) hk0 hk1 hk2 hk3 hk4
 obtain ⟨x,e5⟩:=ok_int (d:=E 5) hk5
 obtain ⟨x2,e6⟩:=ok_int (d:=E 6) hk6
 obtain ⟨x3,e7⟩:=ok_int (d:=E 7) hk7
 have el : aH E d177.sig.ins.length=[au m.slots,af m.heads,af m.free,af m.ae,.i m.now,.i x,.i x2,.i x3]:=by
  show [E 0,E 1,E 2,E 3,E 4,E 5,E 6,E 7]=_
  rw [e0,e1,e2,e3,e4,e5,e6,e7]
 rw [el] at hp
 rw [el]
 rw [Env.bJ el]
 clear el e0 e1 e2 e3 e4 e5 e6 e7
 rw [fn177]
 simp only [d177,mem_of,aA,List.getD_cons_zero,List.getD_cons_succ,CD.aR] at hp
 obtain ⟨h1,h2,h3,h4,h5⟩:=hp
 have hn : ((au m.slots).rows.getD x2.toNat []).getD 5 .u=.i (msl m x2.toNat).next:=qa (by omega)
 unfold cut
 unfold t177
 refine G0 (fun h=>?_) (fun h=>?_)
 ·simp only [nrm,xdn,reduceIte,Nat.reduceLT,Nat.reduceSub,Nat.reduceAdd] at h
  rw [if_pos h]
  refine G1 (by simp only [nrm,xdn,reduceIte,Nat.reduceLT,Nat.reduceSub,Nat.reduceAdd];omega) (ag (by simp only [nrm,xdn,reduceIte,Nat.reduceLT,Nat.reduceSub,Nat.reduceAdd];omega) (ag (by simp only [nrm,xdn,reduceIte,Nat.reduceLT,Nat.reduceSub,Nat.reduceAdd,aN];omega) (ag (by simp only [nrm,xdn,reduceIte,Nat.reduceLT,Nat.reduceSub,Nat.reduceAdd];omega) (ag (by simp only [nrm,xdn,reduceIte,Nat.reduceLT,Nat.reduceSub,Nat.reduceAdd,aN];omega) (aj ?_)))))
  simp only [nrm,xdn,reduceIte,Nat.reduceLT,Nat.reduceSub,Nat.reduceAdd,hn,CV,Mem.cds]
  rfl
 ·simp only [nrm,xdn,reduceIte,Nat.reduceLT,Nat.reduceSub,Nat.reduceAdd] at h
  rw [if_neg h]
  refine ag (by simp only [nrm,xdn,reduceIte,Nat.reduceLT,Nat.reduceSub,Nat.reduceAdd];omega) (ag (by simp only [nrm,xdn,reduceIte,Nat.reduceLT,Nat.reduceSub,Nat.reduceAdd,aN];omega) (ag (by simp only [nrm,xdn,reduceIte,Nat.reduceLT,Nat.reduceSub,Nat.reduceAdd];omega) (ag (by simp only [nrm,xdn,reduceIte,Nat.reduceLT,Nat.reduceSub,Nat.reduceAdd,aw];omega) (aj ?_))))
  simp only [nrm,xdn,reduceIte,Nat.reduceLT,Nat.reduceSub,Nat.reduceAdd,hn,iG,Mem.cds]
end Go.Proofs.Ytpmamacjepcdmaa

namespace Go.Proofs.Ytpmamacjepcdmaa
open Go Go.Sy Go.RowKit
set_option linter.unusedSimpArgs false
set_option linter.unusedVariables false
structure bV (m : Mem) (f : Frm) : Prop where
 call : bf m f.c=0
 pc0 : 0≤f.pc
 pc9 : f.pc≤9
 n0 : 0≤f.n
 n9 : f.n≤1000000
 nd : f.done=false
 cur0 : -(m.heads.length : Int)≤f.cur
 cur1 : f.cur≤m.slots.length
 prev0 : 0≤f.prev
 prev1 : f.prev≤m.slots.length
 slot0 : -1≤f.slot
 slot1 : f.slot < m.slots.length
 keys : f.keys.length≤100
theorem mD (m : Mem) (f : Frm) : eO m f=0↔bV m f:=by
 unfold eO
 constructor
 ·intro h
  split at h
  ·rename_i h1;exact absurd h h1
  ·rename_i h1
   split at h
   ·cases h
   ·rename_i h2
    split at h
    ·cases h
    ·rename_i h3
     split at h
     ·cases h
     ·rename_i h4
      split at h
      ·cases h
      ·rename_i h5
       exact ⟨Classical.not_not.1 h1,by omega,by omega,by omega,by omega,by simpa using h3,by omega,by omega,by omega,by omega,by omega,by omega,by omega⟩
 ·intro h
  obtain ⟨h1,h2,h3,h4,h5,h6,h7,h8,h9,h10,h11,h12,h13⟩:=h
  rw [if_neg (fun x=>x h1),if_neg (by omega),if_neg (by rw [h6];exact Bool.false_ne_true),if_neg (by omega),if_neg (by omega)]
theorem mH {m : Mem} {c : Cal} (h : bf m c=0) (hk : c.kind=1∨c.kind=2∨c.kind=3) : Key.Ok c.k:=by
 unfold bf at h
 refine (gA c.k).1 ?_
 rcases hk with hk | hk | hk
 ·rwa [if_pos (.inl hk)] at h
 ·rw [if_neg (by omega),if_pos hk] at h
  split at h
  ·cases h
  ·exact h
 ·rwa [if_pos (.inr hk)] at h
theorem nv {m : Mem} {c : Cal} (h : bf m c=0) (hk : c.kind=2) : 1≤c.time∧c.time≤1000000:=by
 unfold bf at h
 rw [if_neg (by omega),if_pos hk] at h
 split at h
 ·cases h
 ·omega
theorem mI {m : Mem} {c : Cal} (h : bf m c=0) (hk : c.kind=4∨c.kind=5) : 0≤c.bucket∧c.bucket < m.heads.length:=by
 unfold bf at h
 rw [if_neg (by omega),if_neg (by omega),if_pos hk] at h
 split at h
 ·cases h
 ·omega
def fix (m : Mem) : Mem:={ m with heads:=List.replicate m.heads.length (-1),ae:=List.replicate m.heads.length (-1)}
structure aZ (m : Mem) : Prop where
 fx : bB (fix m)
 nl : m.ae.length=m.heads.length
 hd : ∀ i,i < m.heads.length→-(m.heads.length : Int)≤m.heads.getD i 0∧m.heads.getD i 0≤m.slots.length
theorem ff (m : Mem) : (fix m).heads.length=m.heads.length:=List.length_replicate
theorem bB.rJ {m : Mem} (h : bB m) : aZ m:=by
 refine ⟨⟨h.ns,by rw [ff];exact h.nh1,by rw [ff];exact h.nh4,by simp [fix],h.ma,h.Ik,by rw [ff];exact h.slot,fun i hi=>?_,h.free,h.nodup,h.leak⟩,h.nl,fun i hi=>⟨(h.head i hi).n1,(h.head i hi).n0⟩⟩
 rw [ff] at hi ⊢
 have hn:=h.nh1
 have e : (List.replicate m.heads.length (-1 : Int)).getD i 0=-1:=by simp [List.getD_eq_getElem?_getD,hi]
 show ug _ _ ((List.replicate m.heads.length (-1 : Int)).getD i 0) ((List.replicate m.heads.length (-1 : Int)).getD i 0)
 rw [e]
 exact ⟨by decide,by omega,by omega,by decide,by decide⟩
theorem aZ.ns {m : Mem} (h : aZ m) : m.slots.length≤12:=h.fx.ns
theorem aZ.nh1 {m : Mem} (h : aZ m) : 1≤m.heads.length:=by have:=h.fx.nh1;rwa [ff] at this
theorem aZ.nh4 {m : Mem} (h : aZ m) : m.heads.length≤4:=by have:=h.fx.nh4;rwa [ff] at this
theorem aZ.ma {m : Mem} (h : aZ m) : 0≤m.now:=h.fx.ma
theorem aZ.Ik {m : Mem} (h : aZ m) : m.now≤1000000:=h.fx.Ik
theorem aZ.nf {m : Mem} (h : aZ m) : m.free.length≤12:=h.fx.nf
theorem aZ.sl {m : Mem} (h : aZ m) {i : Nat} (hi : i < m.slots.length) : mR m.slots.length m.heads.length (msl m i):=by
 have:=h.fx.sl hi
 rwa [ff] at this
theorem aZ.refs {m : Mem} (h : aZ m) {a : Int} (h1 : 0≤a) (h2 : a < m.slots.length) : 0≤(msl m a.toNat).refs∧(msl m a.toNat).refs≤1000:=h.fx.refs h1 h2
theorem qZ {m : Mem} (hm : aZ m) (h : m.free.length≠0) : 0≤bc m∧bc m < m.slots.length:=by
 have:=hm.fx.free (bc m) (pA (by show _ < m.free.length;omega))
 exact ⟨this.1,this.2.1⟩
theorem aQ {m : Mem} (hm : aZ m) {c : Cal} (h : bf m c=0) (hk : 1≤c.kind∧c.kind≤5) : 0≤aa m c∧aa m c < m.heads.length:=by
 unfold aa
 by_cases h4 : c.kind=4∨c.kind=5
 ·rw [if_pos h4];exact mI h h4
 ·rw [if_neg h4]
  have:=vr (mH h (by omega)) (n:=m.heads.length) (by have:=hm.nh1;omega) (by have:=hm.nh4;omega)
  exact ⟨this.1,this.2.1⟩
def lock (m : Mem) (b task : Int) : Mem × Bool:=if m.ae.getD b.toNat 0=-1 then ({ m with ae:=m.ae.set b.toNat task},true) else (m,false)
def unlock (m : Mem) (b task : Int) : Mem:=if m.ae.getD b.toNat 0=task then { m with ae:=m.ae.set b.toNat (-1)} else m
def at1 (m : Mem) (f : Frm) : bp:=msl m (f.cur - 1).toNat
def at2 (m : Mem) (f : Frm) : bp:=msl m f.slot.toNat
def ar (m : Mem) (f : Frm) : Frm × Mem :=
 if f.pc=0 then ({ f with cur:=aO m (aa m f.c),pc:=1},m)
 else if f.pc=1∧0 < f.cur then ({ f with pc:=if (at1 m f).k=f.c.k then 3 else 2},m)
 else if f.pc=1∧f.cur=-1 - aa m f.c then (ay f 5,m)
 else if f.pc=2∧0 < f.cur then ({ f with cur:=(at1 m f).next,pc:=1},m)
 else if f.pc=3∧0 < f.cur then (if (hold m (f.cur - 1)).2=true then ({ f with slot:=f.cur - 1,pc:=4},(hold m (f.cur - 1)).1) else ({ f with pc:=0},m))
 else if f.pc=4∧0≤f.slot then (if (at2 m f).k≠f.c.k∨(at2 m f).inn=false then ({ f with pc:=5},m) else if (at2 m f).till≤m.now then ({ f with pc:=6},m) else (ay f 0,m))
 else if f.pc=5∧0≤f.slot then ({ f with slot:=-1,pc:=0},put m f.slot)
 else if f.pc=6∧0≤f.slot then (ay { f with slot:=-1} 5,put m f.slot)
 else ({ f with pc:=0},m)
def bE (m : Mem) (f : Frm) : Int:=if m.now + f.c.time≤2000000 then m.now + f.c.time else 2000000
def G3 (m : Mem) (f : Frm) (task : Int) : Frm × Mem :=
 if f.pc=0 then
  (if (take m f.c.k (bE m f)).2.2≠0 then (ay f 7,m)
   else ({ f with slot:=(take m f.c.k (bE m f)).2.1,pc:=1},(take m f.c.k (bE m f)).1))
 else if f.pc=1 then ({ f with pc:=if (lock m (aa m f.c) task).2=true then 2 else f.pc},(lock m (aa m f.c) task).1)
 else if f.pc=2 then ({ f with cur:=aO m (aa m f.c),pc:=3},m)
 else if f.pc=3 then ({ f with pc:=if f.cur≤0 then 5 else if (at1 m f).k=f.c.k then 6 else 4},m)
 else if f.pc=4∧0 < f.cur then ({ f with cur:=(at1 m f).next,pc:=3},m)
 else if f.pc=5∧0≤f.slot then ({ f with e:=0,pc:=7},link m f.slot (aa m f.c))
 else if f.pc=6∧0≤f.slot then ({ f with slot:=-1,e:=6,pc:=7},put m f.slot)
 else if f.pc=7 then (ay f f.e,unlock m (aa m f.c) task)
 else ({ f with e:=8,pc:=7},m)
def aL (m : Mem) (f : Frm) (task : Int) : Frm × Mem :=
 if f.pc=0 then ({ f with pc:=if (lock m (aa m f.c) task).2=true then 1 else f.pc},(lock m (aa m f.c) task).1)
 else if f.pc=1 then ({ f with prev:=0,cur:=aO m (aa m f.c),pc:=2},m)
 else if f.pc=2 then (if f.cur≤0 then ({ f with e:=5,pc:=5},m) else ({ f with pc:=if (at1 m f).k=f.c.k then 4 else 3},m))
 else if f.pc=3∧0 < f.cur then ({ f with prev:=f.cur,cur:=(at1 m f).next,pc:=2},m)
 else if f.pc=4∧0 < f.cur then ({ f with slot:=f.cur - 1,e:=0,pc:=5},cut m f.prev (f.cur - 1) (aa m f.c))
 else if f.pc=5 then ({ f with pc:=6},unlock m (aa m f.c) task)
 else if f.pc=6 then (ay { f with slot:=if 0≤f.slot then -1 else f.slot} f.e,if 0≤f.slot then put m f.slot else m)
 else ({ f with e:=8,pc:=5},m)
def aB (m : Mem) (f : Frm) (task : Int) : Frm × Mem :=
 if f.pc=0 then ({ f with pc:=if (lock m (aa m f.c) task).2=true then 1 else f.pc},(lock m (aa m f.c) task).1)
 else if f.pc=1 then ({ f with prev:=0,cur:=aO m (aa m f.c),pc:=2},m)
 else if f.pc=2∧f.cur≤0 then ({ f with pc:=6},m)
 else if f.pc=2∧f.c.kind=5 then ({ f with keys:=if f.keys.length < 100 then f.keys ++ [(at1 m f).k] else f.keys,pc:=3},m)
 else if f.pc=2 then ({ f with pc:=if (at1 m f).till≤m.now then 4 else 3},m)
 else if f.pc=3∧0 < f.cur then ({ f with prev:=f.cur,cur:=(at1 m f).next,pc:=2},m)
 else if f.pc=4∧0 < f.cur then ({ f with slot:=f.cur - 1,cur:=(at1 m f).next,pc:=5},cut m f.prev (f.cur - 1) (aa m f.c))
 else if f.pc=5∧0≤f.slot then ({ f with slot:=-1,n:=if 1000000 < f.n + 1 then 1000000 else f.n + 1,pc:=2},put m f.slot)
 else if f.pc=6 then (ay f 0,unlock m (aa m f.c) task)
 else ({ f with pc:=6},m)
def bZ (st : Mem→Frm→Frm × Mem) : Nat→Frm→Mem→Frm × Mem × Bool
 | 0,f,m=>(f,m,false)
 | n + 1,f,m=>if (st m f).1.done=true then ((st m f).1,(st m f).2,true) else bZ st n (st m f).1 (st m f).2
theorem bd {st : Mem→Frm→Frm × Mem} {n : Nat} {f g : Frm} {m x : Mem} (h : st m f=(g,x)) (hd : g.done=false) : bZ st (n + 1) f m=bZ st n g x:=by
 rw [bZ,h,hd];rfl
theorem dm {st : Mem→Frm→Frm × Mem} {n : Nat} {f g : Frm} {m x : Mem} (h : st m f=(g,x)) (hd : g.done=true) : bZ st (n + 1) f m=(g,x,true):=by
 rw [bZ,h,hd];rfl
theorem sb {m : Mem} {a : Int} (h : (hold m a).2=false) : (hold m a).1=m:=by
 unfold hold at h ⊢
 split
 ·rfl
 ·rename_i hc;rw [if_neg hc] at h;cases h
theorem rX {m : Mem} {b t : Int} (h : (lock m b t).2=false) : (lock m b t).1=m:=by
 unfold lock at h ⊢
 split
 ·rename_i hc;rw [if_pos hc] at h;cases h
 ·rfl
theorem Aj {m : Mem} {k : Key} {t : Int} (h : (take m k t).2.2≠0) : take m k t=(m,0,7):=by
 unfold take at h ⊢
 split
 ·rfl
 ·rename_i hc;rw [if_neg hc] at h;exact absurd rfl h
theorem AW {j k : Key} (h : ((j.a ==k.a) && ((j.b ==k.b) && true))=true) : j=k:=by
 simp only [Bool.and_true,Bool.and_eq_true,beq_iff_eq] at h
 cases j;cases k;simp only at h;rw [h.1,h.2]
theorem AY {j k : Key} (h : ((j.a ==k.a) && ((j.b ==k.b) && true))=false) : j≠k:=fun e=>by
 rw [e] at h;simp at h
theorem xR (f : Frm) (e : Int) : d44.fn [.i f.c.kind,.i f.c.k.a,.i f.c.k.b,.i f.c.time,.i f.c.bucket,.i f.c.slot,.i f.pc,.i f.cur,.i f.prev,.i f.slot,.i f.n,bS f.keys,.b f.done,.i f.e,.i e]=(ay f e).cds:=by
 simp only [d44,dJ,List.getD_cons_zero,List.getD_cons_succ,CD.aR]
theorem Fa (m : Mem) (c : Cal) : d48.fn [au m.slots,af m.heads,af m.free,af m.ae,.i m.now,.i c.kind,.i c.k.a,.i c.k.b,.i c.time,.i c.bucket,.i c.slot]=[.i (aa m c)]:=by
 simp only [d48,mem_of,aA,List.drop_succ_cons,List.drop_zero,fG,cz]
theorem fs162 (m : Mem) (k : Key) (x : Int) : d162.fn [au m.slots,af m.heads,af m.free,af m.ae,.i m.now,.i k.a,.i k.b,.i x]=(take m k x).1.cds ++ [.i (take m k x).2.1,.i (take m k x).2.2]:=by simp only [d162,mem_of,aA,List.drop_succ_cons,List.drop_zero,jK,eZ,List.getD_cons_zero,List.getD_cons_succ,CD.aR]
theorem fs166 (m : Mem) (x : Int) : d166.fn [au m.slots,af m.heads,af m.free,af m.ae,.i m.now,.i x]=(hold m x).1.cds ++ [.b (hold m x).2]:=by simp only [d166,mem_of,aA,List.getD_cons_zero,List.getD_cons_succ,CD.aR]
theorem A6 (m : Mem) (x : Int) : d167.fn [au m.slots,af m.heads,af m.free,af m.ae,.i m.now,.i x]=(put m x).cds:=by simp only [d167,mem_of,aA,List.getD_cons_zero,List.getD_cons_succ,CD.aR]
theorem pi166 {m : Mem} {x : Int} (hm : aZ m) (h0 : 0≤x) (h1 : x < m.slots.length) : d166.pre [au m.slots,af m.heads,af m.free,af m.ae,.i m.now,.i x]:=by
 simp only [d166,mem_of,aA,List.getD_cons_zero,List.getD_cons_succ,CD.aR]
 exact ⟨h0,h1,(hm.refs h0 h1).1,(hm.refs h0 h1).2⟩
theorem pi167 {m : Mem} {x : Int} (hm : aZ m) (h0 : 0≤x) (h1 : x < m.slots.length) : d167.pre [au m.slots,af m.heads,af m.free,af m.ae,.i m.now,.i x]:=by
 simp only [d167,mem_of,aA,List.getD_cons_zero,List.getD_cons_succ,CD.aR]
 exact ⟨h0,h1,(hm.refs h0 h1).1,(hm.refs h0 h1).2,by have:=hm.nf;omega⟩
theorem CF {m : Mem} (hm : aZ m) : m.free.length=0∨(0≤bc m∧bc m < m.slots.length):=by
 by_cases h : m.free.length=0
 ·exact .inl h
 ·exact .inr (qZ hm h)
theorem pi162 {m : Mem} {k : Key} {x : Int} (hm : aZ m) : d162.pre [au m.slots,af m.heads,af m.free,af m.ae,.i m.now,.i k.a,.i k.b,.i x]:=by
 simp only [d162,mem_of,aA]
 exact CF hm
end Go.Proofs.Ytpmamacjepcdmaa
