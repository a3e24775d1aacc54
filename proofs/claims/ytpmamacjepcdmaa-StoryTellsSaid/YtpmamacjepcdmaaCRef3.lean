import Derived.Test.YtpmamacjepcdmaaCRef
namespace Go.Proofs.Ytpmamacjepcdmaa
open Go Go.Sy Go.RowKit
set_option linter.unusedSimpArgs false
set_option linter.unusedVariables false
def s62 : Sig:=⟨[.agg [.fz kS,.fz kI,.fz kI,.fz kI,.int .i64]],[.agg [.own 52 kS,.own 3 kI,.own 3 kI,.own 3 kI,.int .i64]]⟩
def d62 : DC:=⟨s62,fun _=>True,fun l=>(Mem.of l).cds⟩
theorem fn62 (m : Mem) : d62.fn [ai m.slots,aa m.heads,aa m.free,aa m.locks,.i m.now]=m.cds:=by simp only [d62,mem_of,aq]
def l62 : List (Nat × Ct):=[]
def z62 : Cx:={ T:=ttA,C:=sigs l62,F:=[],hints:=[],sig:=s62}
def t62 : Tree :=
 (.need (.le (.len (.var 0)) (.int 2932031007402))
 (.need (.le (.len (.var 1)) (.int 17592186044416))
 (.need (.le (.len (.var 2)) (.int 17592186044416))
 (.need (.le (.len (.var 3)) (.int 17592186044416))
 (.ret [.app .nil (.var 0),.app .nil (.var 1),.app .nil (.var 2),.app .nil (.var 3),.var 4])))))
theorem run62 : run z62 6000 [.code (Try.f62.body.getD .skip),.fin (aP z62 Try.f62.results.toList 50)] { fn:=62,tmps:=z62.sig.aE ++ List.replicate (Try.f62.ntmps - z62.sig.aE.length) (.v (.one .undef)),stk:=[],h:=z62.sig.h0,nx:=z62.sig.ins.length,known:=[]}=t62:=by kernel_rfl
theorem ok62 : bJ Try.prog 62 d62.ct:=by
 refine ax (d:=d62) (Z:=z62) (Γ:=gam l62) (fn:=Try.f62) (c:=Try.f62.body.getD .skip) (aJ tok mixed all_nil aK) Try.func62 (by kernel_rfl) (by kernel_rfl) rfl run62 fun E hk hp=>?_
 obtain ⟨hk0,hk1,hk2,hk3,hk4,_⟩:=hk
 obtain ⟨m,e0,e1,e2,e3,e4,b0,b1,b2,b3⟩:=bp (d0:=E 0) (d1:=E 1) (d2:=E 2) (d3:=E 3) (d4:=E 4) hk0 hk1 hk2 hk3 hk4
 have el : aG E d62.sig.ins.length=[ai m.slots,aa m.heads,aa m.free,aa m.locks,.i m.now]:=by
  show [E 0,E 1,E 2,E 3,E 4]=_
  rw [e0,e1,e2,e3,e4]
 rw [el] at hp
 rw [el]
 rw [Env.aU el]
 clear el e0 e1 e2 e3 e4
 rw [fn62]
 unfold t62
 refine cm (by simp only [nrm,xdn,reduceIte,Nat.reduceLT,Nat.reduceSub,Nat.reduceAdd,aw];omega) (cm (by simp only [nrm,xdn,reduceIte,Nat.reduceLT,Nat.reduceSub,Nat.reduceAdd,aj];omega) (cm (by simp only [nrm,xdn,reduceIte,Nat.reduceLT,Nat.reduceSub,Nat.reduceAdd,aj];omega) (cm (by simp only [nrm,xdn,reduceIte,Nat.reduceLT,Nat.reduceSub,Nat.reduceAdd,aj];omega) (ag ?_))))
 simp only [nrm,xdn,reduceIte,Nat.reduceLT,Nat.reduceSub,Nat.reduceAdd,List.nil_append,Mem.cds]
 rfl
def wV (L : List Int) : CD:=.l (L.map fun k=>[.i k,.b true])
theorem hU (k : Int) : ∀ L : List Int,((CD.find (wV L).rows [.i k] 1).getD []).getD 1 (.b false)=.b (decide (k∈L))
 | []=>rfl
 | a :: L=>by
  have ih:=hU k L
  simp only [wV,CD.aC,CD.find,List.map_cons,List.find?_cons,List.take_succ_cons,List.take_zero,iI,CD.eqs,Bool.and_true] at ih ⊢
  cases h : (a ==k) with
  | true =>
   have:=eq_of_beq h
   subst this
   simp
  | false =>
   have : k≠a:=fun e=>by subst e;simp at h
   simp only [ih,List.mem_cons,this,false_or]
def s58 : Sig:=⟨[.agg [.fz kS,.fz kI,.fz kI,.fz kI,.int .i64]],[.one (.int .i64)]⟩
def d58 : DC:=⟨s58,fun _=>True,fun l=>[.i (bY (Mem.of l))]⟩
theorem fn58 (m : Mem) : d58.fn [ai m.slots,aa m.heads,aa m.free,aa m.locks,.i m.now]=[.i (bY m)]:=by simp only [d58,mem_of,aq]
def l58 : List (Nat × Ct):=[(65,d65.ct)]
def z58 : Cx:={ T:=ttA,C:=sigs l58,F:=[],hints:=[⟨58,9,false,[(46,.lt)],[],[],[],0⟩,⟨58,17,false,[(87,.lt)],[],[],[],0⟩,⟨58,27,false,[(127,.lt)],[],[],[0],0⟩,⟨58,36,false,[(156,.lt)],[],[],[],0⟩],sig:=s58}
def t58 : Tree :=
 (.ite (.lt (.int 12) (.len (.var 0)))
 (.ret [.int 2])
 (.ite (.lt (.len (.var 1)) (.int 1))
 (.ret [.int 2])
 (.ite (.lt (.int 4) (.len (.var 1)))
 (.ret [.int 2])
 (.ite (.not (.eq (.len (.var 3)) (.len (.var 1))))
 (.ret [.int 4])
 (.ite (.lt (.var 4) (.int 0))
 (.ret [.int 3])
 (.ite (.lt (.int 1000000) (.var 4))
 (.ret [.int 3])
 (.loop 5 [.int .i64] [.int 0]
 (.ite (.lt (.var 6) (.len (.var 0)))
 (.need (.le (.int 0) (.var 6))
 (.ite (.lt (.cell (.var 0) (.var 6) 0) (.int 0))
 (.ret [.int 3])
 (.ite (.lt (.int 1000) (.cell (.var 0) (.var 6) 0))
 (.ret [.int 3])
 (.ite (.lt (.cell (.var 0) (.var 6) 3) (.int 0))
 (.ret [.int 3])
 (.ite (.lt (.int 2000000) (.cell (.var 0) (.var 6) 3))
 (.ret [.int 3])
 (.call 65 [.cell (.var 0) (.var 6) 1,.cell (.var 0) (.var 6) 2] 7
 (.ite (.not (.var 7))
 (.ret [.int 3])
 (.ite (.lt (.len (.var 0)) (.cell (.var 0) (.var 6) 5))
 (.ret [.int 5])
 (.need (.fit (.sub (.int 0) (.len (.var 1))))
 (.ite (.lt (.cell (.var 0) (.var 6) 5) (.sub (.int 0) (.len (.var 1))))
 (.ret [.int 5])
 (.need (.fit (.add (.var 6) (.int 1)))
 (.back 5 [.add (.var 6) (.int 1)]))))))))))))
 (.loop 7 [.int .i64] [.int 0]
 (.ite (.lt (.var 8) (.len (.var 1)))
 (.need (.le (.int 0) (.var 8))
 (.ite (.eq (.cell (.var 1) (.var 8) 0) (.int 0))
 (.ret [.int 5])
 (.ite (.lt (.len (.var 0)) (.cell (.var 1) (.var 8) 0))
 (.ret [.int 5])
 (.need (.fit (.sub (.int 0) (.len (.var 1))))
 (.ite (.lt (.cell (.var 1) (.var 8) 0) (.sub (.int 0) (.len (.var 1))))
 (.ret [.int 5])
 (.need (.lt (.var 8) (.len (.var 3)))
 (.ite (.lt (.cell (.var 3) (.var 8) 0) (.int (-1)))
 (.ret [.int 3])
 (.ite (.lt (.int 4) (.cell (.var 3) (.var 8) 0))
 (.ret [.int 3])
 (.need (.fit (.add (.var 8) (.int 1)))
 (.back 7 [.add (.var 8) (.int 1)]))))))))))
 (.loop 9 [.int .i64,.sl 0 [.int .i64,.bool]] [.int 0,.nil]
 (.ite (.lt (.var 10) (.len (.var 2)))
 (.need (.le (.int 0) (.var 10))
 (.ite (.lt (.cell (.var 2) (.var 10) 0) (.int 0))
 (.ret [.int 5])
 (.ite (.le (.len (.var 0)) (.cell (.var 2) (.var 10) 0))
 (.ret [.int 5])
 (.need (.le (.int 0) (.cell (.var 2) (.var 10) 0))
 (.need (.lt (.cell (.var 2) (.var 10) 0) (.len (.var 0)))
 (.ite (.lt (.int 0) (.cell (.var 0) (.cell (.var 2) (.var 10) 0) 0))
 (.ret [.int 5])
 (.ite (.look (.var 11) (.cons (.cell (.var 2) (.var 10) 0) .row0) (.bool false) 1 1)
 (.ret [.int 6])
 (.need (.fit (.add (.var 10) (.int 1)))
 (.back 9 [.add (.var 10) (.int 1),.app (.cons (.cell (.var 2) (.var 10) 0) (.cons (.bool true) .row0)) (.var 11)])))))))))
 (.loop 12 [.int .i64] [.int 0]
 (.ite (.lt (.var 13) (.len (.var 0)))
 (.need (.le (.int 0) (.var 13))
 (.ite (.eq (.cell (.var 0) (.var 13) 0) (.int 0))
 (.ite (.not (.look (.var 11) (.cons (.var 13) .row0) (.bool false) 1 1))
 (.ret [.int 4])
 (.need (.fit (.add (.var 13) (.int 1)))
 (.back 12 [.add (.var 13) (.int 1)])))
 (.need (.fit (.add (.var 13) (.int 1)))
 (.back 12 [.add (.var 13) (.int 1)]))))
 (.ret [.int 0])))))))))))))))
theorem run58 : run z58 6000 [.code (Try.f58.body.getD .skip),.fin (aP z58 Try.f58.results.toList 50)] { fn:=58,tmps:=z58.sig.aE ++ List.replicate (Try.f58.ntmps - z58.sig.aE.length) (.v (.one .undef)),stk:=[],h:=z58.sig.h0,nx:=z58.sig.ins.length,known:=[]}=t58:=by kernel_rfl
theorem ok58 : bJ Try.prog 58 d58.ct:=by
 refine ax (d:=d58) (Z:=z58) (Γ:=gam l58) (fn:=Try.f58) (c:=Try.f58.body.getD .skip) (aJ tok mixed (all_cons ok65 all_nil) aK) Try.func58 (by kernel_rfl) (by kernel_rfl) rfl run58 fun E hk hp=>?_
 obtain ⟨hk0,hk1,hk2,hk3,hk4,_⟩:=hk
 obtain ⟨m,e0,e1,e2,e3,e4,b0,b1,b2,b3⟩:=bp (d0:=E 0) (d1:=E 1) (d2:=E 2) (d3:=E 3) (d4:=E 4) hk0 hk1 hk2 hk3 hk4
 have el : aG E d58.sig.ins.length=[ai m.slots,aa m.heads,aa m.free,aa m.locks,.i m.now]:=by
  show [E 0,E 1,E 2,E 3,E 4]=_
  rw [e0,e1,e2,e3,e4]
 rw [el] at hp
 rw [el]
 rw [Env.aU el]
 clear el e0 e1 e2 e3 e4
 rw [fn58]
 unfold t58
 refine ae (fun h=>?_) (fun h1=>ae (fun h=>?_) (fun h2=>ae (fun h=>?_) (fun h3=>ae (fun h=>?_) (fun h4=>ae (fun h=>?_) (fun h5=>ae (fun h=>?_) (fun h6=>?_))))))
 case refine_1 | refine_2 | refine_3 | refine_4 | refine_5 | refine_6 =>
  refine ag ?_
  simp only [nrm,xdn,reduceIte,Nat.reduceLT,Nat.reduceSub,Nat.reduceAdd,aw,aj,Bool.not_eq_true',Bool.not_eq_false'] at *
  unfold bY
  repeat (first | rw [if_pos (by omega)] | rw [if_neg (by omega)])
 simp only [nrm,xdn,reduceIte,Nat.reduceLT,Nat.reduceSub,Nat.reduceAdd,aw,aj,Bool.not_eq_true',Bool.not_eq_false'] at h1 h2 h3 h4 h5 h6
 unfold bY
 rw [if_neg (by omega),if_neg (by omega),if_neg (by omega)]
 have hl : m.locks.length=m.heads.length:=by omega
 -- the slots
 refine bD (fun ds=>∃ i : Nat,ds=[.i i]∧i≤m.slots.length∧cn m.slots.length m.heads.length m.slots=cn m.slots.length m.heads.length (m.slots.drop i)) (fun ds=>m.slots.length - (ds.getD 0 .u).int.toNat) ⟨0,rfl,by omega,rfl⟩ ?_
 rintro ds - ⟨i,rfl,hi,ht⟩
 refine ae (fun hlt=>?_) (fun hge=>?_)
 ·simp only [nrm,xdn,reduceIte,Nat.reduceLT,Nat.reduceSub,Nat.reduceAdd,aw] at hlt
  have hs:=ky (ns:=m.slots.length) (nh:=m.heads.length) (l:=m.slots) (i:=i) (by omega)
  refine af (by simp only [nrm,xdn,reduceIte,Nat.reduceLT,Nat.reduceSub,Nat.reduceAdd];omega) ?_
  have bad : ∀ e : Int,e≠0→df m.slots.length m.heads.length (m.slots.getD i default)=e→[CD.i e]=[CD.i (if cn m.slots.length m.heads.length m.slots≠0 then cn m.slots.length m.heads.length m.slots else if bP m.slots.length m.heads.length m.heads m.locks≠0 then bP m.slots.length m.heads.length m.heads m.locks
    else if (aT m.slots m.free (List.replicate m.slots.length false)).1≠0 then (aT m.slots m.free (List.replicate m.slots.length false)).1 else cM m.slots (aT m.slots m.free (List.replicate m.slots.length false)).2)]:=fun e he hx=>by
   have : cn m.slots.length m.heads.length m.slots=e:=by rw [ht,hs,hx,if_pos he]
   rw [this,if_pos he]
  refine ae (fun c1=>ag ?_) (fun c1=>ae (fun c2=>ag ?_) (fun c2=>ae (fun c3=>ag ?_) (fun c3=>ae (fun c4=>ag ?_) (fun c4=>?_))))
  case refine_1 | refine_2 | refine_3 | refine_4 =>
   simp only [nrm,xdn,reduceIte,Nat.reduceLT,Nat.reduceSub,Nat.reduceAdd,Int.toNat_natCast,bs,aX] at *
   exact bad 3 (by decide) (by unfold df;rw [if_pos (by omega)])
  simp only [nrm,xdn,reduceIte,Nat.reduceLT,Nat.reduceSub,Nat.reduceAdd,Int.toNat_natCast,bs,aX] at c1 c2 c3 c4
  refine ah d65 [.b (isKey (m.slots.getD i default).k)] rfl trivial (by simp only [nrm,xdn,reduceIte,Nat.reduceLT,Nat.reduceSub,Nat.reduceAdd,d65,o9,bf,bd,dU,Int.toNat_natCast]) (ae (fun c5=>ag ?_) (fun c5=>?_))
  ·simp only [nrm,xdn,reduceIte,Nat.reduceLT,Nat.reduceSub,Nat.reduceAdd,Bool.not_eq_true'] at c5
   exact bad 3 (by decide) (by unfold df;rw [if_neg (by omega),pB c5,if_pos (by decide)])
  simp only [nrm,xdn,reduceIte,Nat.reduceLT,Nat.reduceSub,Nat.reduceAdd,Bool.not_eq_false'] at c5
  have c5:=lC c5
  refine ae (fun c6=>ag ?_) (fun c6=>aH (by simp only [nrm,xdn,reduceIte,Nat.reduceLT,Nat.reduceSub,Nat.reduceAdd,aj];omega) (ae (fun c7=>ag ?_) (fun c7=>?_)))
  case refine_1 | refine_2 =>
   simp only [nrm,xdn,reduceIte,Nat.reduceLT,Nat.reduceSub,Nat.reduceAdd,Int.toNat_natCast,aY,aw,aj] at *
   exact bad 5 (by decide) (by unfold df;rw [if_neg (by omega),if_neg (by omega),if_neg (by omega)])
  simp only [nrm,xdn,reduceIte,Nat.reduceLT,Nat.reduceSub,Nat.reduceAdd,Int.toNat_natCast,aY,aw,aj] at c6 c7
  refine aH (by simp only [nrm,xdn,reduceIte,Nat.reduceLT,Nat.reduceSub,Nat.reduceAdd];omega) (bx ⟨⟨i + 1,?_,by omega,?_⟩,?_⟩)
  ·simp only [nrm,xdn,reduceIte,Nat.reduceLT,Nat.reduceSub,Nat.reduceAdd];rfl
  ·rw [ht,hs,if_neg (fun hx=>hx (by unfold df;rw [if_neg (by omega),if_neg (by omega),if_pos (by omega)]))]
  ·simp only [nrm,xdn,reduceIte,Nat.reduceLT,Nat.reduceSub,Nat.reduceAdd];omega
 simp only [nrm,xdn,reduceIte,Nat.reduceLT,Nat.reduceSub,Nat.reduceAdd,aw] at hge
 have hS : cn m.slots.length m.heads.length m.slots=0:=by rw [ht,List.drop_of_length_le (by omega)];rfl
 have hsl:=fO.1 hS
 rw [hS,if_neg (fun h=>h rfl)]
 clear hge ht hi
 -- the heads
 refine bD (fun ds=>∃ i : Nat,ds=[.i i]∧i≤m.heads.length∧bP m.slots.length m.heads.length m.heads m.locks=bP m.slots.length m.heads.length (m.heads.drop i) (m.locks.drop i)) (fun ds=>m.heads.length - (ds.getD 0 .u).int.toNat) ⟨0,rfl,by omega,rfl⟩ ?_
 rintro ds - ⟨j,rfl,hj,ht⟩
 refine ae (fun hlt=>?_) (fun hge=>?_)
 ·simp only [nrm,xdn,reduceIte,Nat.reduceLT,Nat.reduceSub,Nat.reduceAdd,aj] at hlt
  have hs:=kH (ns:=m.slots.length) (nh:=m.heads.length) (l:=m.heads) (m:=m.locks) (i:=j) (by omega) (by omega)
  refine af (by simp only [nrm,xdn,reduceIte,Nat.reduceLT,Nat.reduceSub,Nat.reduceAdd];omega) ?_
  have bad : ∀ e : Int,e≠0→dh m.slots.length m.heads.length (m.heads.getD j 0) (m.locks.getD j 0)=e→[CD.i e]=[CD.i (if bP m.slots.length m.heads.length m.heads m.locks≠0 then bP m.slots.length m.heads.length m.heads m.locks
    else if (aT m.slots m.free (List.replicate m.slots.length false)).1≠0 then (aT m.slots m.free (List.replicate m.slots.length false)).1 else cM m.slots (aT m.slots m.free (List.replicate m.slots.length false)).2)]:=fun e he hx=>by
   have : bP m.slots.length m.heads.length m.heads m.locks=e:=by rw [ht,hs,hx,if_pos he]
   rw [this,if_pos he]
  refine ae (fun c1=>ag ?_) (fun c1=>ae (fun c2=>ag ?_) (fun c2=>aH (by simp only [nrm,xdn,reduceIte,Nat.reduceLT,Nat.reduceSub,Nat.reduceAdd,aj];omega) (ae (fun c3=>ag ?_) (fun c3=>?_))))
  ·simp only [nrm,xdn,reduceIte,Nat.reduceLT,Nat.reduceSub,Nat.reduceAdd,Int.toNat_natCast,au] at c1
   exact bad 5 (by decide) (by unfold dh;rw [if_pos c1])
  case refine_2 | refine_3 =>
   simp only [nrm,xdn,reduceIte,Nat.reduceLT,Nat.reduceSub,Nat.reduceAdd,Int.toNat_natCast,au,aw,aj] at *
   exact bad 5 (by decide) (by unfold dh;rw [if_neg c1,if_neg (by omega)])
  simp only [nrm,xdn,reduceIte,Nat.reduceLT,Nat.reduceSub,Nat.reduceAdd,Int.toNat_natCast,au,aw,aj] at c1 c2 c3
  refine ft (by simp only [nrm,xdn,reduceIte,Nat.reduceLT,Nat.reduceSub,Nat.reduceAdd,aj];omega) (ae (fun c4=>ag ?_) (fun c4=>ae (fun c5=>ag ?_) (fun c5=>?_)))
  case refine_1 | refine_2 =>
   simp only [nrm,xdn,reduceIte,Nat.reduceLT,Nat.reduceSub,Nat.reduceAdd,Int.toNat_natCast,au] at *
   exact bad 3 (by decide) (by unfold dh;rw [if_neg c1,if_pos (by omega),if_pos (by omega)])
  simp only [nrm,xdn,reduceIte,Nat.reduceLT,Nat.reduceSub,Nat.reduceAdd,Int.toNat_natCast,au] at c4 c5
  refine aH (by simp only [nrm,xdn,reduceIte,Nat.reduceLT,Nat.reduceSub,Nat.reduceAdd];omega) (bx ⟨⟨j + 1,?_,by omega,?_⟩,?_⟩)
  ·simp only [nrm,xdn,reduceIte,Nat.reduceLT,Nat.reduceSub,Nat.reduceAdd];rfl
  ·rw [ht,hs,if_neg (fun hx=>hx (by unfold dh;rw [if_neg c1,if_pos (by omega),if_neg (by omega)]))]
  ·simp only [nrm,xdn,reduceIte,Nat.reduceLT,Nat.reduceSub,Nat.reduceAdd];omega
 simp only [nrm,xdn,reduceIte,Nat.reduceLT,Nat.reduceSub,Nat.reduceAdd,aj] at hge
 have hH : bP m.slots.length m.heads.length m.heads m.locks=0:=by rw [ht,List.drop_of_length_le (by omega),List.drop_of_length_le (by omega)];rfl
 rw [hH,if_neg (fun h=>h rfl)]
 clear hge ht hj
 -- what is free
 refine bD (fun ds=>∃ (seen : List Bool) (L : List Int) (i : Nat),ds=[.i i,wV L]∧seen.length=m.slots.length∧i≤m.free.length∧aT m.slots m.free (List.replicate m.slots.length false)=aT m.slots (m.free.drop i) seen∧∀ a : Nat,a < m.slots.length→(seen.getD a false=true↔(a : Int)∈L)) (fun ds=>m.free.length - (ds.getD 0 .u).int.toNat)
  ⟨List.replicate m.slots.length false,[],0,rfl,by simp,by omega,rfl,fun a ha=>by simp [List.getD_eq_getElem?_getD,List.getElem?_replicate,ha]⟩ ?_
 rintro ds - ⟨seen,L,n,rfl,hn,hi,ht,hL⟩
 refine ae (fun hlt=>?_) (fun hge=>?_)
 ·simp only [nrm,xdn,reduceIte,Nat.reduceLT,Nat.reduceSub,Nat.reduceAdd,aj] at hlt
  have hs:=kL (slots:=m.slots) (l:=m.free) (seen:=seen) (i:=n) (by omega)
  refine af (by simp only [nrm,xdn,reduceIte,Nat.reduceLT,Nat.reduceSub,Nat.reduceAdd];omega) ?_
  have bad : ∀ e : Int,e≠0→aT m.slots (m.free.drop n) seen=(e,seen)→[CD.i e]=[CD.i (if (aT m.slots m.free (List.replicate m.slots.length false)).1≠0 then (aT m.slots m.free (List.replicate m.slots.length false)).1 else cM m.slots (aT m.slots m.free (List.replicate m.slots.length false)).2)]:=fun e he hx=>by
   rw [ht,hx,if_pos he]
  refine ae (fun c1=>ag ?_) (fun c1=>ae (fun c2=>ag ?_) (fun c2=>?_))
  case refine_1 | refine_2 =>
   simp only [nrm,xdn,reduceIte,Nat.reduceLT,Nat.reduceSub,Nat.reduceAdd,Int.toNat_natCast,au,aw] at *
   exact bad 5 (by decide) (by rw [hs,if_pos (by omega)])
  simp only [nrm,xdn,reduceIte,Nat.reduceLT,Nat.reduceSub,Nat.reduceAdd,Int.toNat_natCast,au,aw] at c1 c2
  have hr:=hsl (m.slots.getD (m.free.getD n 0).toNat default) (by
   rw [List.getD_eq_getElem?_getD,List.getElem?_eq_getElem (by omega),Option.getD_some];exact List.getElem_mem _)
  have hr0:=hr.r0
  refine af (by simp only [nrm,xdn,reduceIte,Nat.reduceLT,Nat.reduceSub,Nat.reduceAdd,Int.toNat_natCast,au];omega) (af (by simp only [nrm,xdn,reduceIte,Nat.reduceLT,Nat.reduceSub,Nat.reduceAdd,Int.toNat_natCast,au,aw];omega) (ae (fun c3=>ag ?_) (fun c3=>ae (fun c4=>ag ?_) (fun c4=>?_))))
  ·simp only [nrm,xdn,reduceIte,Nat.reduceLT,Nat.reduceSub,Nat.reduceAdd,Int.toNat_natCast,au,bs] at c3
   exact bad 5 (by decide) (by rw [hs,if_neg (by omega),if_pos (by omega)])
  ·simp only [nrm,xdn,reduceIte,Nat.reduceLT,Nat.reduceSub,Nat.reduceAdd,Int.toNat_natCast,au,bs,CD.row,List.headD_cons,cL (show n < m.free.length by omega),hU] at c3 c4
   exact bad 6 (by decide) (by rw [hs,if_neg (by omega),if_neg (by omega),if_pos ((hL _ (by omega)).2 (by rw [show (((m.free.getD n 0).toNat : Nat) : Int)=m.free.getD n 0 from by omega];exact c4))])
  simp only [nrm,xdn,reduceIte,Nat.reduceLT,Nat.reduceSub,Nat.reduceAdd,Int.toNat_natCast,au,bs,CD.row,List.headD_cons,cL (show n < m.free.length by omega),hU] at c3 c4
  refine aH (by simp only [nrm,xdn,reduceIte,Nat.reduceLT,Nat.reduceSub,Nat.reduceAdd];omega) (bx ⟨⟨seen.set (m.free.getD n 0).toNat true,m.free.getD n 0 :: L,n + 1,?_,by simp [hn],by omega,?_,fun a ha=>?_⟩,?_⟩)
  ·simp only [nrm,xdn,reduceIte,Nat.reduceLT,Nat.reduceSub,Nat.reduceAdd,Int.toNat_natCast,CD.row,List.headD_cons,cL (show n < m.free.length by omega)]
   rfl
  ·rw [ht,hs,if_neg (by omega),if_neg (by omega),if_neg (fun h=>c4 (by have:=(hL _ (by omega)).1 h;rw [show (((m.free.getD n 0).toNat : Nat) : Int)=m.free.getD n 0 from by omega] at this;exact this))]
  ·rw [eu,List.mem_cons]
   by_cases e : (m.free.getD n 0).toNat=a
   ·rw [if_pos ⟨e,by omega⟩]
    exact ⟨fun _=>.inl (by omega),fun _=>rfl⟩
   ·rw [if_neg (fun h=>e h.1),hL a ha]
    exact ⟨.inr,fun h=>h.resolve_left (by omega)⟩
  ·simp only [nrm,xdn,reduceIte,Nat.reduceLT,Nat.reduceSub,Nat.reduceAdd];omega
 simp only [nrm,xdn,reduceIte,Nat.reduceLT,Nat.reduceSub,Nat.reduceAdd,aj] at hge
 have hF : aT m.slots m.free (List.replicate m.slots.length false)=(0,seen):=by rw [ht,List.drop_of_length_le (by omega)];rfl
 rw [hF]
 simp only [ne_eq,not_true_eq_false,if_false]
 clear hge ht hi
 refine bD (fun ds=>∃ i : Nat,ds=[.i i]∧i≤m.slots.length∧cM m.slots seen=cM (m.slots.drop i) (seen.drop i)) (fun ds=>m.slots.length - (ds.getD 0 .u).int.toNat) ⟨0,rfl,by omega,rfl⟩ ?_
 rintro ds - ⟨i,rfl,hi,ht⟩
 refine ae (fun hlt=>?_) (fun hge=>?_)
 ·simp only [nrm,xdn,reduceIte,Nat.reduceLT,Nat.reduceSub,Nat.reduceAdd,aw] at hlt
  have hs:=lZ (l:=m.slots) (m:=seen) (i:=i) (by omega) (by omega)
  have hLi:=hL i (by omega)
  refine af (by simp only [nrm,xdn,reduceIte,Nat.reduceLT,Nat.reduceSub,Nat.reduceAdd];omega) (ae (fun c1=>ae (fun c2=>ag ?_) (fun c2=>?_)) (fun c1=>?_))
  ·simp only [nrm,xdn,reduceIte,Nat.reduceLT,Nat.reduceSub,Nat.reduceAdd,Int.toNat_natCast,bs,CD.row,List.headD_cons,hU,Bool.not_eq_true',decide_eq_false_iff_not] at c1 c2 ⊢
   rw [ht,hs,if_pos ⟨c1,by cases h : seen.getD i false with
    | false=>rfl
    | true=>exact absurd (hLi.1 h) c2⟩]
  ·simp only [nrm,xdn,reduceIte,Nat.reduceLT,Nat.reduceSub,Nat.reduceAdd,Int.toNat_natCast,bs,CD.row,List.headD_cons,hU,Bool.not_eq_false',decide_eq_true_eq] at c1 c2
   refine aH (by simp only [nrm,xdn,reduceIte,Nat.reduceLT,Nat.reduceSub,Nat.reduceAdd];omega) (bx ⟨⟨i + 1,?_,by omega,?_⟩,?_⟩)
   ·simp only [nrm,xdn,reduceIte,Nat.reduceLT,Nat.reduceSub,Nat.reduceAdd];rfl
   ·rw [ht,hs,if_neg (fun h=>by have:=hLi.2 c2;rw [h.2] at this;cases this)]
   ·simp only [nrm,xdn,reduceIte,Nat.reduceLT,Nat.reduceSub,Nat.reduceAdd];omega
  ·simp only [nrm,xdn,reduceIte,Nat.reduceLT,Nat.reduceSub,Nat.reduceAdd,Int.toNat_natCast,bs] at c1
   refine aH (by simp only [nrm,xdn,reduceIte,Nat.reduceLT,Nat.reduceSub,Nat.reduceAdd];omega) (bx ⟨⟨i + 1,?_,by omega,?_⟩,?_⟩)
   ·simp only [nrm,xdn,reduceIte,Nat.reduceLT,Nat.reduceSub,Nat.reduceAdd];rfl
   ·rw [ht,hs,if_neg (fun h=>c1 h.1)]
   ·simp only [nrm,xdn,reduceIte,Nat.reduceLT,Nat.reduceSub,Nat.reduceAdd];omega
 simp only [nrm,xdn,reduceIte,Nat.reduceLT,Nat.reduceSub,Nat.reduceAdd,aw] at hge
 refine ag ?_
 rw [ht,List.drop_of_length_le (by omega)]
 rfl
end Go.Proofs.Ytpmamacjepcdmaa

namespace Go.Proofs.Ytpmamacjepcdmaa
open Go Go.Sy Go.RowKit
set_option linter.unusedSimpArgs false
set_option linter.unusedVariables false
def s66 : Sig:=⟨[.ptr [.own 52 kS,.own 3 kI,.own 3 kI,.own 3 kI,.int .i64],.agg [.int .i64,.int .i64],.one (.int .i64)],[.one (.int .i64),.one (.bool)]⟩
def d66 : DC:=⟨s66,fun l=>(Mem.of l).free.length≤1000∧((Mem.of l).free.length=0∨(0≤bG (Mem.of l)∧bG (Mem.of l) < (Mem.of l).slots.length)),fun l=>(take (Mem.of l) (Key.of (l.drop 5)) (l.getD 7 .u).int).1.cds ++ [.i (take (Mem.of l) (Key.of (l.drop 5)) (l.getD 7 .u).int).2.1,.b (decide ((take (Mem.of l) (Key.of (l.drop 5)) (l.getD 7 .u).int).2.2=0))]⟩
theorem fn66 (m : Mem) (k : Key) (x : Int) : d66.fn [ai m.slots,aa m.heads,aa m.free,aa m.locks,.i m.now,.i k.a,.i k.b,.i x]=(take m k x).1.cds ++ [.i (take m k x).2.1,.b (decide ((take m k x).2.2=0))]:=by simp only [d66,mem_of,aq,List.drop_succ_cons,List.drop_zero,iP,dU,List.getD_cons_zero,List.getD_cons_succ,CD.aL]
def l66 : List (Nat × Ct):=[]
def z66 : Cx:={ T:=ttA,C:=sigs l66,F:=[],hints:=[],sig:=s66}
def t66 : Tree :=
 (.ite (.eq (.len (.var 2)) (.int 0))
 (.ret [.var 0,.var 1,.var 2,.var 3,.var 4,.int 0,.bool false])
 (.need (.fit (.sub (.len (.var 2)) (.int 1)))
 (.need (.le (.int 0) (.sub (.len (.var 2)) (.int 1)))
 (.need (.lt (.sub (.len (.var 2)) (.int 1)) (.len (.var 2)))
 (.need (.le (.sub (.len (.var 2)) (.int 1)) (.len (.var 2)))
 (.need (.le (.len (.take (.sub (.len (.var 2)) (.int 1)) (.var 2))) (.int 17592186044416))
 (.need (.le (.int 0) (.cell (.var 2) (.sub (.len (.var 2)) (.int 1)) 0))
 (.need (.lt (.cell (.var 2) (.sub (.len (.var 2)) (.int 1)) 0) (.len (.var 0)))
 (.ret [.set (.set (.set (.set (.set (.set (.var 0) (.cell (.var 2) (.sub (.len (.var 2)) (.int 1)) 0) 0 (.int 1)) (.cell (.var 2) (.sub (.len (.var 2)) (.int 1)) 0) 1 (.var 5)) (.cell (.var 2) (.sub (.len (.var 2)) (.int 1)) 0) 2 (.var 6)) (.cell (.var 2) (.sub (.len (.var 2)) (.int 1)) 0) 3 (.var 7)) (.cell (.var 2) (.sub (.len (.var 2)) (.int 1)) 0) 4 (.bool false)) (.cell (.var 2) (.sub (.len (.var 2)) (.int 1)) 0) 5 (.cell (.var 0) (.cell (.var 2) (.sub (.len (.var 2)) (.int 1)) 0) 5),.var 1,.app .nil (.take (.sub (.len (.var 2)) (.int 1)) (.var 2)),.var 3,.var 4,.cell (.var 2) (.sub (.len (.var 2)) (.int 1)) 0,.bool true])))))))))
theorem run66 : run z66 6000 [.code (Try.f66.body.getD .skip),.fin (aP z66 Try.f66.results.toList 50)] { fn:=66,tmps:=z66.sig.aE ++ List.replicate (Try.f66.ntmps - z66.sig.aE.length) (.v (.one .undef)),stk:=[],h:=z66.sig.h0,nx:=z66.sig.ins.length,known:=[]}=t66:=by kernel_rfl
theorem ok66 : bJ Try.prog 66 d66.ct:=by
 refine ax (d:=d66) (Z:=z66) (Γ:=gam l66) (fn:=Try.f66) (c:=Try.f66.body.getD .skip) (aJ tok mixed all_nil aK) Try.func66 (by kernel_rfl) (by kernel_rfl) rfl run66 fun E hk hp=>?_
 obtain ⟨hk0,hk1,hk2,hk3,hk4,hk5,hk6,hk7,_⟩:=hk
 obtain ⟨m,e0,e1,e2,e3,e4,b0,b1,b2,b3⟩:=bp (d0:=E 0) (d1:=E 1) (d2:=E 2) (d3:=E 3) (d4:=E 4) hk0 hk1 hk2 hk3 hk4
 obtain ⟨k,e5,e6⟩:=mC (d0:=E 5) (d1:=E 6) hk5 hk6
 obtain ⟨x,e7⟩:=ok_int (d:=E 7) hk7
 have el : aG E d66.sig.ins.length=[ai m.slots,aa m.heads,aa m.free,aa m.locks,.i m.now,.i k.a,.i k.b,.i x]:=by
  show [E 0,E 1,E 2,E 3,E 4,E 5,E 6,E 7]=_
  rw [e0,e1,e2,e3,e4,e5,e6,e7]
 rw [el] at hp
 rw [el]
 rw [Env.aU el]
 clear el e0 e1 e2 e3 e4 e5 e6 e7
 simp only [d66,mem_of,aq] at hp
 obtain ⟨hf,hp⟩:=hp
 rw [fn66]
 unfold t66
 refine ae (fun h=>ag ?_) (fun h=>?_)
 ·simp only [nrm,xdn,reduceIte,Nat.reduceLT,Nat.reduceSub,Nat.reduceAdd,aj] at h
  have ht : take m k x=(m,0,7):=by unfold take;rw [if_pos (by omega)]
  rw [ht]
  simp only [nrm,xdn,reduceIte,Nat.reduceLT,Nat.reduceSub,Nat.reduceAdd,Mem.cds];rfl
 simp only [nrm,xdn,reduceIte,Nat.reduceLT,Nat.reduceSub,Nat.reduceAdd,aj] at h
 have ht : take m k x=({ m with slots:=m.slots.modify (bG m).toNat (gj k x),free:=m.free.take (m.free.length - 1)},bG m,0):=by unfold take;rw [if_neg (by omega)]
 rw [ht]
 have e : ((m.free.length : Int) - 1).toNat=m.free.length - 1:=by omega
 have e2 : m.free.getD (m.free.length - 1) 0=bG m:=rfl
 have e3 : ((aa m.free).rows.getD (m.free.length - 1) []).getD 0 .u=.i (bG m):=cL (by omega)
 have e4 : ((ai m.slots).rows.getD (bG m).toNat []).getD 5 .u=.i (msl m (bG m).toNat).next:=fI (by omega)
 have e5 : (((aa m.free).rows.take (m.free.length - 1)).length : Int)=(m.free.length : Int) - 1:=by simp [aa];omega
 refine aH (by simp only [nrm,xdn,reduceIte,Nat.reduceLT,Nat.reduceSub,Nat.reduceAdd,aj];omega) (af (by simp only [nrm,xdn,reduceIte,Nat.reduceLT,Nat.reduceSub,Nat.reduceAdd,aj];omega) (af (by simp only [nrm,xdn,reduceIte,Nat.reduceLT,Nat.reduceSub,Nat.reduceAdd,aj];omega) (af (by simp only [nrm,xdn,reduceIte,Nat.reduceLT,Nat.reduceSub,Nat.reduceAdd,aj];omega) (cm (by simp only [nrm,xdn,reduceIte,Nat.reduceLT,Nat.reduceSub,Nat.reduceAdd,aj,e,e5];omega) (af (by simp only [nrm,xdn,reduceIte,Nat.reduceLT,Nat.reduceSub,Nat.reduceAdd,aj,e,au,e2];omega) (af (by simp only [nrm,xdn,reduceIte,Nat.reduceLT,Nat.reduceSub,Nat.reduceAdd,aj,e,au,e2,aw];omega) (ag ?_)))))))
 simp only [nrm,xdn,reduceIte,Nat.reduceLT,Nat.reduceSub,Nat.reduceAdd,aj,e,au,e2,e3,e4,iE,tw,tu,tt,qN,oC,av,qb,oP,Mem.cds,lca,decide_true]
 rw [dt (fun s : bq=>(⟨1,⟨k.a,k.b⟩,x,false,(msl m (bG m).toNat).next⟩ : bq)) (gj k x) m.slots (bG m).toNat rfl]
 rfl
def s67 : Sig:=⟨[.ptr [.own 52 kS,.own 3 kI,.own 3 kI,.own 3 kI,.int .i64],.one (.int .i64)],[.one (.bool)]⟩
def d67 : DC:=⟨s67,fun l=>0≤(l.getD 5 .u).int∧(l.getD 5 .u).int < (Mem.of l).slots.length∧0≤(msl (Mem.of l) (l.getD 5 .u).int.toNat).refs∧(msl (Mem.of l) (l.getD 5 .u).int.toNat).refs≤1000,fun l=>(hold (Mem.of l) (l.getD 5 .u).int).1.cds ++ [.b (hold (Mem.of l) (l.getD 5 .u).int).2]⟩
theorem fn67 (m : Mem) (x : Int) : d67.fn [ai m.slots,aa m.heads,aa m.free,aa m.locks,.i m.now,.i x]=(hold m x).1.cds ++ [.b (hold m x).2]:=by simp only [d67,mem_of,aq,List.getD_cons_zero,List.getD_cons_succ,CD.aL]
def l67 : List (Nat × Ct):=[]
def z67 : Cx:={ T:=ttA,C:=sigs l67,F:=[],hints:=[],sig:=s67}
def t67 : Tree :=
 (.need (.le (.int 0) (.var 5))
 (.need (.lt (.var 5) (.len (.var 0)))
 (.ite (.lt (.int 0) (.cell (.var 0) (.var 5) 0))
 (.ite (.lt (.cell (.var 0) (.var 5) 0) (.int 1000))
 (.need (.fit (.add (.cell (.var 0) (.var 5) 0) (.int 1)))
 (.ret [.set (.var 0) (.var 5) 0 (.add (.cell (.var 0) (.var 5) 0) (.int 1)),.var 1,.var 2,.var 3,.var 4,.bool true]))
 (.ret [.var 0,.var 1,.var 2,.var 3,.var 4,.bool false]))
 (.ret [.var 0,.var 1,.var 2,.var 3,.var 4,.bool false]))))
theorem run67 : run z67 6000 [.code (Try.f67.body.getD .skip),.fin (aP z67 Try.f67.results.toList 50)] { fn:=67,tmps:=z67.sig.aE ++ List.replicate (Try.f67.ntmps - z67.sig.aE.length) (.v (.one .undef)),stk:=[],h:=z67.sig.h0,nx:=z67.sig.ins.length,known:=[]}=t67:=by kernel_rfl
theorem ok67 : bJ Try.prog 67 d67.ct:=by
 refine ax (d:=d67) (Z:=z67) (Γ:=gam l67) (fn:=Try.f67) (c:=Try.f67.body.getD .skip) (aJ tok mixed all_nil aK) Try.func67 (by kernel_rfl) (by kernel_rfl) rfl run67 fun E hk hp=>?_
 obtain ⟨hk0,hk1,hk2,hk3,hk4,hk5,_⟩:=hk
 obtain ⟨m,e0,e1,e2,e3,e4,b0,b1,b2,b3⟩:=bp (d0:=E 0) (d1:=E 1) (d2:=E 2) (d3:=E 3) (d4:=E 4) hk0 hk1 hk2 hk3 hk4
 obtain ⟨x,e5⟩:=ok_int (d:=E 5) hk5
 have el : aG E d67.sig.ins.length=[ai m.slots,aa m.heads,aa m.free,aa m.locks,.i m.now,.i x]:=by
  show [E 0,E 1,E 2,E 3,E 4,E 5]=_
  rw [e0,e1,e2,e3,e4,e5]
 rw [el] at hp
 rw [el]
 rw [Env.aU el]
 clear el e0 e1 e2 e3 e4 e5
 rw [fn67]
 simp only [d67,mem_of,aq,List.getD_cons_zero,List.getD_cons_succ,CD.aL] at hp
 unfold hold
 unfold t67
 have hm : m.slots.getD x.toNat default=msl m x.toNat:=rfl
 refine af (by simp only [nrm,xdn,reduceIte,Nat.reduceLT,Nat.reduceSub,Nat.reduceAdd];omega) (af (by simp only [nrm,xdn,reduceIte,Nat.reduceLT,Nat.reduceSub,Nat.reduceAdd,aw];omega) (ae (fun h=>ae (fun h'=>?_) (fun h'=>ag ?_)) (fun h=>ag ?_)))
 ·simp only [nrm,xdn,reduceIte,Nat.reduceLT,Nat.reduceSub,Nat.reduceAdd,bs,hm] at h h'
  rw [if_neg (by omega)]
  refine aH (by simp only [nrm,xdn,reduceIte,Nat.reduceLT,Nat.reduceSub,Nat.reduceAdd,bs,hm];omega) (ag ?_)
  simp only [nrm,xdn,reduceIte,Nat.reduceLT,Nat.reduceSub,Nat.reduceAdd,bs,hm,iE,Mem.cds,lca]
  rw [show (m.slots.modify x.toNat fun s=>{ s with refs:=(msl m x.toNat).refs + 1})=m.slots.modify x.toNat (eg 1) from dt (fun s=>{ s with refs:=(msl m x.toNat).refs + 1}) (eg 1) m.slots x.toNat rfl]
 ·simp only [nrm,xdn,reduceIte,Nat.reduceLT,Nat.reduceSub,Nat.reduceAdd,bs,hm] at h h'
  rw [if_pos (.inr (by omega))]
  simp only [nrm,xdn,reduceIte,Nat.reduceLT,Nat.reduceSub,Nat.reduceAdd,Mem.cds];rfl
 ·simp only [nrm,xdn,reduceIte,Nat.reduceLT,Nat.reduceSub,Nat.reduceAdd,bs,hm] at h
  rw [if_pos (.inl (by omega))]
  simp only [nrm,xdn,reduceIte,Nat.reduceLT,Nat.reduceSub,Nat.reduceAdd,Mem.cds];rfl
def s68 : Sig:=⟨[.ptr [.own 52 kS,.own 3 kI,.own 3 kI,.own 3 kI,.int .i64],.one (.int .i64)],[]⟩
def d68 : DC:=⟨s68,fun l=>0≤(l.getD 5 .u).int∧(l.getD 5 .u).int < (Mem.of l).slots.length∧0≤(msl (Mem.of l) (l.getD 5 .u).int.toNat).refs∧(msl (Mem.of l) (l.getD 5 .u).int.toNat).refs≤1000∧(Mem.of l).free.length≤1000,fun l=>(put (Mem.of l) (l.getD 5 .u).int).cds⟩
theorem fn68 (m : Mem) (x : Int) : d68.fn [ai m.slots,aa m.heads,aa m.free,aa m.locks,.i m.now,.i x]=(put m x).cds:=by simp only [d68,mem_of,aq,List.getD_cons_zero,List.getD_cons_succ,CD.aL]
def l68 : List (Nat × Ct):=[]
def z68 : Cx:={ T:=ttA,C:=sigs l68,F:=[],hints:=[],sig:=s68}
def t68 : Tree :=
 (.need (.le (.int 0) (.var 5))
 (.need (.lt (.var 5) (.len (.var 0)))
 (.ite (.eq (.cell (.var 0) (.var 5) 0) (.int 0))
 (.ret [.var 0,.var 1,.var 2,.var 3,.var 4])
 (.ite (.eq (.cell (.var 0) (.var 5) 0) (.int 1))
 (.need (.le (.len (.var 2)) (.int 17592186044416))
 (.need (.le (.add (.len (.var 2)) (.int 1)) (.int 17592186044416))
 (.ret [.set (.var 0) (.var 5) 0 (.int 0),.var 1,.app (.app .nil (.var 2)) (.cons (.var 5) .row0),.var 3,.var 4])))
 (.need (.fit (.sub (.cell (.var 0) (.var 5) 0) (.int 1)))
 (.ret [.set (.var 0) (.var 5) 0 (.sub (.cell (.var 0) (.var 5) 0) (.int 1)),.var 1,.var 2,.var 3,.var 4]))))))
theorem run68 : run z68 6000 [.code (Try.f68.body.getD .skip),.fin (aP z68 Try.f68.results.toList 50)] { fn:=68,tmps:=z68.sig.aE ++ List.replicate (Try.f68.ntmps - z68.sig.aE.length) (.v (.one .undef)),stk:=[],h:=z68.sig.h0,nx:=z68.sig.ins.length,known:=[]}=t68:=by kernel_rfl
theorem ok68 : bJ Try.prog 68 d68.ct:=by
 refine ax (d:=d68) (Z:=z68) (Γ:=gam l68) (fn:=Try.f68) (c:=Try.f68.body.getD .skip) (aJ tok mixed all_nil aK) Try.func68 (by kernel_rfl) (by kernel_rfl) rfl run68 fun E hk hp=>?_
 obtain ⟨hk0,hk1,hk2,hk3,hk4,hk5,_⟩:=hk
 obtain ⟨m,e0,e1,e2,e3,e4,b0,b1,b2,b3⟩:=bp (d0:=E 0) (d1:=E 1) (d2:=E 2) (d3:=E 3) (d4:=E 4) hk0 hk1 hk2 hk3 hk4
 obtain ⟨x,e5⟩:=ok_int (d:=E 5) hk5
 have el : aG E d68.sig.ins.length=[ai m.slots,aa m.heads,aa m.free,aa m.locks,.i m.now,.i x]:=by
  show [E 0,E 1,E 2,E 3,E 4,E 5]=_
  rw [e0,e1,e2,e3,e4,e5]
 rw [el] at hp
 rw [el]
 rw [Env.aU el]
 clear el e0 e1 e2 e3 e4 e5
 rw [fn68]
 simp only [d68,mem_of,aq,List.getD_cons_zero,List.getD_cons_succ,CD.aL] at hp
 unfold put
 unfold t68
 have hm : m.slots.getD x.toNat default=msl m x.toNat:=rfl
 refine af (by simp only [nrm,xdn,reduceIte,Nat.reduceLT,Nat.reduceSub,Nat.reduceAdd];omega) (af (by simp only [nrm,xdn,reduceIte,Nat.reduceLT,Nat.reduceSub,Nat.reduceAdd,aw];omega) (ae (fun h=>ag ?_) (fun h=>ae (fun h'=>?_) (fun h'=>?_))))
 ·simp only [nrm,xdn,reduceIte,Nat.reduceLT,Nat.reduceSub,Nat.reduceAdd,bs,hm] at h
  rw [if_pos h]
  simp only [nrm,xdn,reduceIte,Nat.reduceLT,Nat.reduceSub,Nat.reduceAdd,Mem.cds]
 ·simp only [nrm,xdn,reduceIte,Nat.reduceLT,Nat.reduceSub,Nat.reduceAdd,bs,hm] at h h'
  rw [if_neg h,if_pos h']
  have hw : (m.slots.modify x.toNat fun s=>{ s with refs:=0})=m.slots.modify x.toNat (eg (-1)):=dt (fun s=>{ s with refs:=0}) (eg (-1)) m.slots x.toNat (by
   have : (m.slots.getD x.toNat default).refs=1:=h'
   simp only [eg,this];rfl)
  refine cm (by simp only [nrm,xdn,reduceIte,Nat.reduceLT,Nat.reduceSub,Nat.reduceAdd,aj];omega) (cm (by simp only [nrm,xdn,reduceIte,Nat.reduceLT,Nat.reduceSub,Nat.reduceAdd,aj];omega) (ag ?_))
  simp only [nrm,xdn,reduceIte,Nat.reduceLT,Nat.reduceSub,Nat.reduceAdd,bs,hm,iE,Mem.cds,CD.row,List.headD_cons,oP,dZ,hw,List.nil_append]
 ·simp only [nrm,xdn,reduceIte,Nat.reduceLT,Nat.reduceSub,Nat.reduceAdd,bs,hm] at h h'
  rw [if_neg h,if_neg h']
  have hw : (m.slots.modify x.toNat fun s=>{ s with refs:=(msl m x.toNat).refs - 1})=m.slots.modify x.toNat (eg (-1)):=dt (fun s=>{ s with refs:=(msl m x.toNat).refs - 1}) (eg (-1)) m.slots x.toNat rfl
  refine aH (by simp only [nrm,xdn,reduceIte,Nat.reduceLT,Nat.reduceSub,Nat.reduceAdd,bs,hm];omega) (ag ?_)
  simp only [nrm,xdn,reduceIte,Nat.reduceLT,Nat.reduceSub,Nat.reduceAdd,bs,hm,iE,Mem.cds,hw]
end Go.Proofs.Ytpmamacjepcdmaa
