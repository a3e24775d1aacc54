import Derived.Test.YtpmamacjepcdmaaCFrame
namespace Go.Proofs.Ytpmamacjepcdmaa
open Go Go.Sy Go.RowKit
set_option linter.unusedSimpArgs false
set_option linter.unusedVariables false
abbrev wG (ns nh : Nat) (n : Int) : Prop:=n≤ns∧-(nh : Int)≤n
def gb (ns nh : Nat) (s : bp) : Int:=if s.refs < 0∨1000 < s.refs∨s.till < 0∨2000000 < s.till then 3 else if checkKey s.k≠0 then 3 else if wG ns nh s.next then 0 else 5
def Hq (ns nh : Nat) : List bp→Int
 | []=>0
 | s :: l=>if gb ns nh s≠0 then gb ns nh s else Hq ns nh l
def gw (ns nh : Nat) (h k : Int) : Int:=if h=0 then 5 else if wG ns nh h then (if k < -1∨5≤k then 3 else 0) else 5
def cV (ns nh : Nat) : List Int→List Int→Int
 | h :: l,k :: m=>if gw ns nh h k≠0 then gw ns nh h k else cV ns nh l m
 | _,_=>0
def bD (slots : List bp) : List Int→List Bool→Int × List Bool
 | [],seen=>(0,seen)
 | k :: l,seen=>if k < 0∨slots.length≤k then (5,seen) else if (slots.getD k.toNat default).refs≠0 then (5,seen) else if seen.getD k.toNat false=true then (6,seen) else bD slots l (seen.set k.toNat true)
def Hv : List bp→List Bool→Int
 | s :: l,b :: m=>if s.refs=0∧b=false then 4 else Hv l m
 | _,_=>0
def cP (m : Mem) : Int :=
 if 12 < m.slots.length∨m.heads.length < 1∨4 < m.heads.length then 2
 else if m.locks.length≠m.heads.length then 4
 else if m.now < 0∨1000000 < m.now then 3
 else if Hq m.slots.length m.heads.length m.slots≠0 then Hq m.slots.length m.heads.length m.slots
 else if cV m.slots.length m.heads.length m.heads m.locks≠0 then cV m.slots.length m.heads.length m.heads m.locks
 else if (bD m.slots m.free (List.replicate m.slots.length false)).1≠0 then (bD m.slots m.free (List.replicate m.slots.length false)).1
 else Hv m.slots (bD m.slots m.free (List.replicate m.slots.length false)).2
theorem iA (slots : List bp) : ∀ (l : List Int) (seen : List Bool),(bD slots l seen).2.length=seen.length
 | [],_=>rfl
 | k :: l,seen=>by
  simp only [bD]
  split
  ·rfl
  ·split
   ·rfl
   ·split
    ·rfl
    ·rw [iA slots l];simp
theorem um {ns nh : Nat} {l : List bp} {i : Nat} (h : i < l.length) : Hq ns nh (l.drop i)=if gb ns nh (l.getD i default)≠0 then gb ns nh (l.getD i default) else Hq ns nh (l.drop (i + 1)):=by
 rw [dL h];rfl
theorem uu {ns nh : Nat} {l m : List Int} {i : Nat} (h : i < l.length) (h' : i < m.length) : cV ns nh (l.drop i) (m.drop i)=if gw ns nh (l.getD i 0) (m.getD i 0)≠0 then gw ns nh (l.getD i 0) (m.getD i 0) else cV ns nh (l.drop (i + 1)) (m.drop (i + 1)):=by
 rw [dL h,dL h'];rfl
theorem uv {slots : List bp} {l : List Int} {seen : List Bool} {i : Nat} (h : i < l.length) : bD slots (l.drop i) seen=if l.getD i 0 < 0∨slots.length≤l.getD i 0 then (5,seen) else if (slots.getD (l.getD i 0).toNat default).refs≠0 then (5,seen) else if seen.getD (l.getD i 0).toNat false=true then (6,seen) else bD slots (l.drop (i + 1)) (seen.set (l.getD i 0).toNat true):=by
 rw [dL h];rfl
theorem v7 {l : List bp} {m : List Bool} {i : Nat} (h : i < l.length) (h' : i < m.length) : Hv (l.drop i) (m.drop i)=if (l.getD i default).refs=0∧m.getD i false=false then 4 else Hv (l.drop (i + 1)) (m.drop (i + 1)):=by
 rw [dL h,dL h'];rfl
theorem zF (a b : CD) (l : List CD) : Key.of (a :: b :: l)=⟨a.int,b.int⟩:=rfl
def s51 : Sig:=⟨[.agg [.fz kS,.fz kI,.fz kI,.fz kI,.int .i64]],[.one (.int .i64)]⟩
def d51 : DC:=⟨s51,fun _=>True,fun l=>[.i (cP (Mem.of l))]⟩
def l51 : List (Nat × Ct):=[(52,d52.ct),(160,d160.ct)]
def z51 : Cx:={ T:=ttA,C:=sigs l51,F:=[],hints:=[⟨51,8,false,[(46,.lt)],[],[],[],0,0,false⟩,⟨51,16,false,[(83,.lt)],[],[],[],0,0,false⟩,⟨51,25,false,[(118,.lt),(7,.own 4 kB)],[],[],[],0,0,false⟩,⟨51,34,false,[(151,.lt)],[],[],[],0,0,false⟩],sig:=s51}
def t51 : Tree :=
 (.ite (.lt (.int 12) (.len (.var 0)))
 (.ret [.int 2])
 (.ite (.lt (.len (.var 1)) (.int 1))
 (.ret [.int 2])
 (.ite (.lt (.int 4) (.len (.var 1)))
 (.ret [.int 2])
 (.ite (.not (.eq (.len (.var 3)) (.len (.var 1))))
 (.ret [.int 4])
 (.ite (.lt (.var 4) (.int 0))
 (.ret [.int 3])
 (.ite (.lt (.int 1000000) (.var 4))
 (.ret [.int 3])
 (.loop 5 [.int .i64] [.int 0]
 (.ite (.lt (.var 6) (.len (.var 0)))
 (.need (.le (.int 0) (.var 6))
 (.ite (.lt (.cell (.var 0) (.var 6) 0) (.int 0))
 (.ret [.int 3])
 (.ite (.lt (.int 1000) (.cell (.var 0) (.var 6) 0))
 (.ret [.int 3])
 (.ite (.lt (.cell (.var 0) (.var 6) 3) (.int 0))
 (.ret [.int 3])
 (.ite (.lt (.int 2000000) (.cell (.var 0) (.var 6) 3))
 (.ret [.int 3])
 (.call 52 [.cell (.var 0) (.var 6) 1,.cell (.var 0) (.var 6) 2] 7
 (.ite (.not (.eq (.var 7) (.int 0)))
 (.ret [.int 3])
 (.call 160 [.var 0,.var 1,.var 2,.var 3,.var 4,.cell (.var 0) (.var 6) 5] 8
 (.ite (.not (.var 8))
 (.ret [.int 5])
 (.need (.fit (.add (.var 6) (.int 1)))
 (.back 5 [.add (.var 6) (.int 1)])))))))))))
 (.loop 7 [.int .i64] [.int 0]
 (.ite (.lt (.var 8) (.len (.var 1)))
 (.need (.le (.int 0) (.var 8))
 (.ite (.eq (.cell (.var 1) (.var 8) 0) (.int 0))
 (.ret [.int 5])
 (.call 160 [.var 0,.var 1,.var 2,.var 3,.var 4,.cell (.var 1) (.var 8) 0] 9
 (.ite (.not (.var 9))
 (.ret [.int 5])
 (.need (.lt (.var 8) (.len (.var 3)))
 (.ite (.lt (.cell (.var 3) (.var 8) 0) (.int (-1)))
 (.ret [.int 3])
 (.ite (.le (.int 5) (.cell (.var 3) (.var 8) 0))
 (.ret [.int 3])
 (.need (.fit (.add (.var 8) (.int 1)))
 (.back 7 [.add (.var 8) (.int 1)])))))))))
 (.need (.le (.len (.var 0)) (.int 140737488355328))
 (.loop 9 [.sl 1 [.bool],.int .i64] [.rep (.len (.var 0)) (.cons (.bool false) .row0),.int 0]
 (.ite (.lt (.var 11) (.len (.var 2)))
 (.need (.le (.int 0) (.var 11))
 (.ite (.lt (.cell (.var 2) (.var 11) 0) (.int 0))
 (.ret [.int 5])
 (.ite (.le (.len (.var 0)) (.cell (.var 2) (.var 11) 0))
 (.ret [.int 5])
 (.need (.le (.int 0) (.cell (.var 2) (.var 11) 0))
 (.need (.lt (.cell (.var 2) (.var 11) 0) (.len (.var 0)))
 (.ite (.not (.eq (.cell (.var 0) (.cell (.var 2) (.var 11) 0) 0) (.int 0)))
 (.ret [.int 5])
 (.need (.lt (.cell (.var 2) (.var 11) 0) (.len (.var 10)))
 (.ite (.cell (.var 10) (.cell (.var 2) (.var 11) 0) 0)
 (.ret [.int 6])
 (.need (.fit (.add (.var 11) (.int 1)))
 (.back 9 [.set (.var 10) (.cell (.var 2) (.var 11) 0) 0 (.bool true),.add (.var 11) (.int 1)]))))))))))
 (.loop 12 [.int .i64] [.int 0]
 (.ite (.lt (.var 13) (.len (.var 0)))
 (.need (.le (.int 0) (.var 13))
 (.ite (.eq (.cell (.var 0) (.var 13) 0) (.int 0))
 (.need (.lt (.var 13) (.len (.var 10)))
 (.ite (.not (.cell (.var 10) (.var 13) 0))
 (.ret [.int 4])
 (.need (.fit (.add (.var 13) (.int 1)))
 (.back 12 [.add (.var 13) (.int 1)]))))
 (.need (.fit (.add (.var 13) (.int 1)))
 (.back 12 [.add (.var 13) (.int 1)]))))
 (.ret [.int 0]))))))))))))))))
theorem run51 : run z51 6000 [.code (Try.f51.body.getD .skip),.fin (bt z51 Try.f51.results.toList 50)] { fn:=51,tmps:=z51.sig.aM ++ List.replicate (Try.f51.ntmps - z51.sig.aM.length) (.v (.one .undef)),stk:=[],h:=z51.sig.h0,nx:=z51.sig.ins.length,known:=[]}=t51:=by kernel_rfl
theorem ok51 : cB Try.prog 51 d51.ct:=by
 refine aD (d:=d51) (Z:=z51) (Γ:=gam l51) (fn:=Try.f51) (c:=Try.f51.body.getD .skip) (bg tok mixed (all_cons ok52 (all_cons ok160 all_nil)) bh) Try.func51 (by kernel_rfl) (by kernel_rfl) rfl run51 fun E hk hp=>?_
 obtain ⟨hk0,hk1,hk2,hk3,hk4,_⟩:=hk
 obtain ⟨m,e0,e1,e2,e3,e4,b0,b1,b2,b3⟩:=cv (d0:=E 0) (d1:=E 1) (d2:=E 2) (d3:=E 3) (d4:=E 4) hk0 hk1 hk2 hk3 hk4
 have el : aH E d51.sig.ins.length=[au m.slots,af m.heads,af m.free,af m.locks,.i m.now]:=by
  show [E 0,E 1,E 2,E 3,E 4]=_
  rw [e0,e1,e2,e3,e4]
 rw [el] at hp
 rw [el]
 rw [Env.bJ el]
 clear el e0 e1 e2 e3 e4
 simp only [d51,mem_of,aA]
 unfold t51
 refine G0 (fun h=>?_) (fun h1=>G0 (fun h=>?_) (fun h2=>G0 (fun h=>?_) (fun h3=>G0 (fun h=>?_) (fun h4=>G0 (fun h=>?_) (fun h5=>G0 (fun h=>?_) (fun h6=>?_))))))
 case refine_1 | refine_2 | refine_3 | refine_4 | refine_5 | refine_6 =>
  refine aj ?_
  simp only [nrm,xdn,reduceIte,Nat.reduceLT,Nat.reduceSub,Nat.reduceAdd,aN,aw,Bool.not_eq_true',Bool.not_eq_false'] at *
  unfold cP
  repeat (first | rw [if_pos (by omega)] | rw [if_neg (by omega)])
 simp only [nrm,xdn,reduceIte,Nat.reduceLT,Nat.reduceSub,Nat.reduceAdd,aN,aw,Bool.not_eq_true',Bool.not_eq_false'] at h1 h2 h3 h4 h5 h6
 unfold cP
 rw [if_neg (by omega),if_neg (by omega),if_neg (by omega)]
 have hl : m.locks.length=m.heads.length:=by omega
 refine bO (fun ds=>∃ i : Nat,ds=[.i i]∧i≤m.slots.length∧Hq m.slots.length m.heads.length m.slots=Hq m.slots.length m.heads.length (m.slots.drop i)) (fun ds=>m.slots.length - (ds.getD 0 .u).int.toNat) ⟨0,rfl,by omega,rfl⟩ ?_
 rintro ds - ⟨i,rfl,hi,ht⟩
 refine G0 (fun hlt=>?_) (fun hge=>?_)
 ·simp only [nrm,xdn,reduceIte,Nat.reduceLT,Nat.reduceSub,Nat.reduceAdd,aN] at hlt
  have hs:=um (ns:=m.slots.length) (nh:=m.heads.length) (l:=m.slots) (i:=i) (by omega)
  refine ag (by simp only [nrm,xdn,reduceIte,Nat.reduceLT,Nat.reduceSub,Nat.reduceAdd];omega) ?_
  have bad : ∀ e : Int,e≠0→gb m.slots.length m.heads.length (m.slots.getD i default)=e→[CD.i e]=[CD.i (if Hq m.slots.length m.heads.length m.slots≠0 then Hq m.slots.length m.heads.length m.slots else if cV m.slots.length m.heads.length m.heads m.locks≠0 then cV m.slots.length m.heads.length m.heads m.locks
    else if (bD m.slots m.free (List.replicate m.slots.length false)).1≠0 then (bD m.slots m.free (List.replicate m.slots.length false)).1 else Hv m.slots (bD m.slots m.free (List.replicate m.slots.length false)).2)]:=fun e he hx=>by
   have : Hq m.slots.length m.heads.length m.slots=e:=by rw [ht,hs,hx,if_pos he]
   rw [this,if_pos he]
  refine G0 (fun c1=>aj ?_) (fun c1=>G0 (fun c2=>aj ?_) (fun c2=>G0 (fun c3=>aj ?_) (fun c3=>G0 (fun c4=>aj ?_) (fun c4=>?_))))
  case refine_1 | refine_2 | refine_3 | refine_4 =>
   simp only [nrm,xdn,reduceIte,Nat.reduceLT,Nat.reduceSub,Nat.reduceAdd,Int.toNat_natCast,cX,cy] at *
   exact bad 3 (by decide) (by unfold gb;rw [if_pos (by omega)])
  simp only [nrm,xdn,reduceIte,Nat.reduceLT,Nat.reduceSub,Nat.reduceAdd,Int.toNat_natCast,cX,cy] at c1 c2 c3 c4
  refine ai d52 [.i (checkKey (m.slots.getD i default).k)] rfl trivial (by simp only [nrm,xdn,reduceIte,Nat.reduceLT,Nat.reduceSub,Nat.reduceAdd,d52,zF,cG,cF,eZ,Int.toNat_natCast]) (G0 (fun c5=>aj ?_) (fun c5=>?_))
  ·simp only [nrm,xdn,reduceIte,Nat.reduceLT,Nat.reduceSub,Nat.reduceAdd,Bool.not_eq_true'] at c5
   exact bad 3 (by decide) (by unfold gb;rw [if_neg (by omega),if_pos c5])
  simp only [nrm,xdn,reduceIte,Nat.reduceLT,Nat.reduceSub,Nat.reduceAdd,Bool.not_eq_false'] at c5
  refine ai d160 [.b (decide (wG m.slots.length m.heads.length (m.slots.getD i default).next))] rfl trivial (by simp only [nrm,xdn,reduceIte,Nat.reduceLT,Nat.reduceSub,Nat.reduceAdd,d160,mem_of,cE,Int.toNat_natCast]) (G0 (fun c6=>aj ?_) (fun c6=>?_))
  ·simp only [nrm,xdn,reduceIte,Nat.reduceLT,Nat.reduceSub,Nat.reduceAdd,Bool.not_eq_true'] at c6
   exact bad 5 (by decide) (by unfold gb;rw [if_neg (by omega),if_neg (by omega),if_neg c6])
  simp only [nrm,xdn,reduceIte,Nat.reduceLT,Nat.reduceSub,Nat.reduceAdd,Bool.not_eq_false'] at c6
  refine G1 (by simp only [nrm,xdn,reduceIte,Nat.reduceLT,Nat.reduceSub,Nat.reduceAdd];omega) (aV ⟨⟨i + 1,?_,by omega,?_⟩,?_⟩)
  ·simp only [nrm,xdn,reduceIte,Nat.reduceLT,Nat.reduceSub,Nat.reduceAdd];rfl
  ·rw [ht,hs,if_neg (fun hx=>hx (by unfold gb;rw [if_neg (by omega),if_neg (by omega),if_pos c6]))]
  ·simp only [nrm,xdn,reduceIte,Nat.reduceLT,Nat.reduceSub,Nat.reduceAdd];omega
 simp only [nrm,xdn,reduceIte,Nat.reduceLT,Nat.reduceSub,Nat.reduceAdd,aN] at hge
 have hS : Hq m.slots.length m.heads.length m.slots=0:=by rw [ht,List.drop_of_length_le (by omega)];rfl
 rw [hS,if_neg (fun h=>h rfl)]
 clear hge ht hi
 refine bO (fun ds=>∃ i : Nat,ds=[.i i]∧i≤m.heads.length∧cV m.slots.length m.heads.length m.heads m.locks=cV m.slots.length m.heads.length (m.heads.drop i) (m.locks.drop i)) (fun ds=>m.heads.length - (ds.getD 0 .u).int.toNat) ⟨0,rfl,by omega,rfl⟩ ?_
 rintro ds - ⟨j,rfl,hj,ht⟩
 refine G0 (fun hlt=>?_) (fun hge=>?_)
 ·simp only [nrm,xdn,reduceIte,Nat.reduceLT,Nat.reduceSub,Nat.reduceAdd,aw] at hlt
  have hs:=uu (ns:=m.slots.length) (nh:=m.heads.length) (l:=m.heads) (m:=m.locks) (i:=j) (by omega) (by omega)
  refine ag (by simp only [nrm,xdn,reduceIte,Nat.reduceLT,Nat.reduceSub,Nat.reduceAdd];omega) ?_
  have bad : ∀ e : Int,e≠0→gw m.slots.length m.heads.length (m.heads.getD j 0) (m.locks.getD j 0)=e→[CD.i e]=[CD.i (if cV m.slots.length m.heads.length m.heads m.locks≠0 then cV m.slots.length m.heads.length m.heads m.locks
    else if (bD m.slots m.free (List.replicate m.slots.length false)).1≠0 then (bD m.slots m.free (List.replicate m.slots.length false)).1 else Hv m.slots (bD m.slots m.free (List.replicate m.slots.length false)).2)]:=fun e he hx=>by
   have : cV m.slots.length m.heads.length m.heads m.locks=e:=by rw [ht,hs,hx,if_pos he]
   rw [this,if_pos he]
  refine G0 (fun c1=>aj ?_) (fun c1=>?_)
  ·simp only [nrm,xdn,reduceIte,Nat.reduceLT,Nat.reduceSub,Nat.reduceAdd,Int.toNat_natCast,aG] at c1
   exact bad 5 (by decide) (by unfold gw;rw [if_pos c1])
  simp only [nrm,xdn,reduceIte,Nat.reduceLT,Nat.reduceSub,Nat.reduceAdd,Int.toNat_natCast,aG] at c1
  refine ai d160 [.b (decide (wG m.slots.length m.heads.length (m.heads.getD j 0)))] rfl trivial (by simp only [nrm,xdn,reduceIte,Nat.reduceLT,Nat.reduceSub,Nat.reduceAdd,d160,mem_of,aG,Int.toNat_natCast]) (G0 (fun c6=>aj ?_) (fun c6=>?_))
  ·simp only [nrm,xdn,reduceIte,Nat.reduceLT,Nat.reduceSub,Nat.reduceAdd,Bool.not_eq_true'] at c6
   exact bad 5 (by decide) (by unfold gw;rw [if_neg c1,if_neg c6])
  simp only [nrm,xdn,reduceIte,Nat.reduceLT,Nat.reduceSub,Nat.reduceAdd,Bool.not_eq_false'] at c6
  refine ag (by simp only [nrm,xdn,reduceIte,Nat.reduceLT,Nat.reduceSub,Nat.reduceAdd,aw];omega) (G0 (fun c2=>aj ?_) (fun c2=>G0 (fun c3=>aj ?_) (fun c3=>?_)))
  case refine_1 | refine_2 =>
   simp only [nrm,xdn,reduceIte,Nat.reduceLT,Nat.reduceSub,Nat.reduceAdd,Int.toNat_natCast,aG] at *
   exact bad 3 (by decide) (by unfold gw;rw [if_neg c1,if_pos c6,if_pos (by omega)])
  simp only [nrm,xdn,reduceIte,Nat.reduceLT,Nat.reduceSub,Nat.reduceAdd,Int.toNat_natCast,aG] at c2 c3
  refine G1 (by simp only [nrm,xdn,reduceIte,Nat.reduceLT,Nat.reduceSub,Nat.reduceAdd];omega) (aV ⟨⟨j + 1,?_,by omega,?_⟩,?_⟩)
  ·simp only [nrm,xdn,reduceIte,Nat.reduceLT,Nat.reduceSub,Nat.reduceAdd];rfl
  ·rw [ht,hs,if_neg (fun hx=>hx (by unfold gw;rw [if_neg c1,if_pos c6,if_neg (by omega)]))]
  ·simp only [nrm,xdn,reduceIte,Nat.reduceLT,Nat.reduceSub,Nat.reduceAdd];omega
 simp only [nrm,xdn,reduceIte,Nat.reduceLT,Nat.reduceSub,Nat.reduceAdd,aw] at hge
 have hH : cV m.slots.length m.heads.length m.heads m.locks=0:=by rw [ht,List.drop_of_length_le (by omega),List.drop_of_length_le (by omega)];rfl
 rw [hH,if_neg (fun h=>h rfl)]
 clear hge ht hj
 refine ag (by simp only [nrm,xdn,reduceIte,Nat.reduceLT,Nat.reduceSub,Nat.reduceAdd,aN];omega) ?_
 refine bO (fun ds=>∃ (seen : List Bool) (i : Nat),ds=[mL seen,.i i]∧seen.length=m.slots.length∧i≤m.free.length∧bD m.slots m.free (List.replicate m.slots.length false)=bD m.slots (m.free.drop i) seen) (fun ds=>m.free.length - (ds.getD 1 .u).int.toNat)
  ⟨List.replicate m.slots.length false,0,?_,by simp,by omega,rfl⟩ ?_
 ·simp only [nrm,xdn,reduceIte,Nat.reduceLT,Nat.reduceSub,Nat.reduceAdd,aN,Int.toNat_natCast,CD.row,List.headD_cons,BN];rfl
 rintro ds - ⟨seen,n,rfl,hn,hi,ht⟩
 refine G0 (fun hlt=>?_) (fun hge=>?_)
 ·simp only [nrm,xdn,reduceIte,Nat.reduceLT,Nat.reduceSub,Nat.reduceAdd,aw] at hlt
  have hs:=uv (slots:=m.slots) (l:=m.free) (seen:=seen) (i:=n) (by omega)
  refine ag (by simp only [nrm,xdn,reduceIte,Nat.reduceLT,Nat.reduceSub,Nat.reduceAdd];omega) ?_
  have bad : ∀ e : Int,e≠0→bD m.slots (m.free.drop n) seen=(e,seen)→[CD.i e]=[CD.i (if (bD m.slots m.free (List.replicate m.slots.length false)).1≠0 then (bD m.slots m.free (List.replicate m.slots.length false)).1 else Hv m.slots (bD m.slots m.free (List.replicate m.slots.length false)).2)]:=fun e he hx=>by
   rw [ht,hx,if_pos he]
  refine G0 (fun c1=>aj ?_) (fun c1=>G0 (fun c2=>aj ?_) (fun c2=>?_))
  case refine_1 | refine_2 =>
   simp only [nrm,xdn,reduceIte,Nat.reduceLT,Nat.reduceSub,Nat.reduceAdd,Int.toNat_natCast,aG,aN] at *
   exact bad 5 (by decide) (by rw [hs,if_pos (by omega)])
  simp only [nrm,xdn,reduceIte,Nat.reduceLT,Nat.reduceSub,Nat.reduceAdd,Int.toNat_natCast,aG,aN] at c1 c2
  refine ag (by simp only [nrm,xdn,reduceIte,Nat.reduceLT,Nat.reduceSub,Nat.reduceAdd,Int.toNat_natCast,aG];omega) (ag (by simp only [nrm,xdn,reduceIte,Nat.reduceLT,Nat.reduceSub,Nat.reduceAdd,Int.toNat_natCast,aG,aN];omega) (G0 (fun c3=>aj ?_) (fun c3=>?_)))
  ·simp only [nrm,xdn,reduceIte,Nat.reduceLT,Nat.reduceSub,Nat.reduceAdd,Int.toNat_natCast,aG,cX,Bool.not_eq_true'] at c3
   exact bad 5 (by decide) (by rw [hs,if_neg (by omega),if_pos c3])
  simp only [nrm,xdn,reduceIte,Nat.reduceLT,Nat.reduceSub,Nat.reduceAdd,Int.toNat_natCast,aG,cX,Bool.not_eq_false'] at c3
  refine ag (by simp only [nrm,xdn,reduceIte,Nat.reduceLT,Nat.reduceSub,Nat.reduceAdd,Int.toNat_natCast,aG,uZ];omega) (G0 (fun c4=>aj ?_) (fun c4=>?_))
  ·simp only [nrm,xdn,reduceIte,Nat.reduceLT,Nat.reduceSub,Nat.reduceAdd,Int.toNat_natCast,aG,nu] at c4
   exact bad 6 (by decide) (by rw [hs,if_neg (by omega),if_neg (fun h=>h c3),if_pos c4])
  simp only [nrm,xdn,reduceIte,Nat.reduceLT,Nat.reduceSub,Nat.reduceAdd,Int.toNat_natCast,aG,nu] at c4
  refine G1 (by simp only [nrm,xdn,reduceIte,Nat.reduceLT,Nat.reduceSub,Nat.reduceAdd];omega) (aV ⟨⟨seen.set (m.free.getD n 0).toNat true,n + 1,?_,by simp [hn],by omega,?_⟩,?_⟩)
  ·simp only [nrm,xdn,reduceIte,Nat.reduceLT,Nat.reduceSub,Nat.reduceAdd,Int.toNat_natCast,aG,CY];rfl
  ·rw [ht,hs,if_neg (by omega),if_neg (fun h=>h c3),if_neg (by rw [c4];decide)]
  ·simp only [nrm,xdn,reduceIte,Nat.reduceLT,Nat.reduceSub,Nat.reduceAdd];omega
 simp only [nrm,xdn,reduceIte,Nat.reduceLT,Nat.reduceSub,Nat.reduceAdd,aw] at hge
 have hF : bD m.slots m.free (List.replicate m.slots.length false)=(0,seen):=by rw [ht,List.drop_of_length_le (by omega)];rfl
 rw [hF,if_neg (fun h=>h rfl)]
 clear hge ht hi hF
 refine bO (fun ds=>∃ i : Nat,ds=[.i i]∧i≤m.slots.length∧Hv m.slots seen=Hv (m.slots.drop i) (seen.drop i)) (fun ds=>m.slots.length - (ds.getD 0 .u).int.toNat) ⟨0,rfl,by omega,rfl⟩ ?_
 rintro ds - ⟨q,rfl,hq,ht⟩
 refine G0 (fun hlt=>?_) (fun hge=>?_)
 ·simp only [nrm,xdn,reduceIte,Nat.reduceLT,Nat.reduceSub,Nat.reduceAdd,aN] at hlt
  have hs:=v7 (l:=m.slots) (m:=seen) (i:=q) (by omega) (by omega)
  have back : ¬ ((m.slots.getD q default).refs=0∧seen.getD q false=false)→∃ i : Nat,[CD.i ((q : Int) + 1)]=[.i i]∧i≤m.slots.length∧Hv m.slots seen=Hv (m.slots.drop i) (seen.drop i):=fun h=>⟨q + 1,rfl,by omega,by rw [ht,hs,if_neg h]⟩
  refine ag (by simp only [nrm,xdn,reduceIte,Nat.reduceLT,Nat.reduceSub,Nat.reduceAdd];omega) (G0 (fun c1=>?_) (fun c1=>?_))
  ·simp only [nrm,xdn,reduceIte,Nat.reduceLT,Nat.reduceSub,Nat.reduceAdd,Int.toNat_natCast,cX] at c1
   refine ag (by simp only [nrm,xdn,reduceIte,Nat.reduceLT,Nat.reduceSub,Nat.reduceAdd,uZ];omega) (G0 (fun c2=>aj ?_) (fun c2=>?_))
   ·simp only [nrm,xdn,reduceIte,Nat.reduceLT,Nat.reduceSub,Nat.reduceAdd,Int.toNat_natCast,nu,Bool.not_eq_true'] at c2
    simp only [nrm,xdn,reduceIte,Nat.reduceLT,Nat.reduceSub,Nat.reduceAdd]
    rw [ht,hs,if_pos ⟨c1,c2⟩]
   ·simp only [nrm,xdn,reduceIte,Nat.reduceLT,Nat.reduceSub,Nat.reduceAdd,Int.toNat_natCast,nu,Bool.not_eq_false'] at c2
    refine G1 (by simp only [nrm,xdn,reduceIte,Nat.reduceLT,Nat.reduceSub,Nat.reduceAdd];omega) (aV ⟨?_,?_⟩)
    ·simp only [nrm,xdn,reduceIte,Nat.reduceLT,Nat.reduceSub,Nat.reduceAdd]
     exact back fun h=>by rw [h.2] at c2;cases c2
    ·simp only [nrm,xdn,reduceIte,Nat.reduceLT,Nat.reduceSub,Nat.reduceAdd];omega
  ·simp only [nrm,xdn,reduceIte,Nat.reduceLT,Nat.reduceSub,Nat.reduceAdd,Int.toNat_natCast,cX] at c1
   refine G1 (by simp only [nrm,xdn,reduceIte,Nat.reduceLT,Nat.reduceSub,Nat.reduceAdd];omega) (aV ⟨?_,?_⟩)
   ·simp only [nrm,xdn,reduceIte,Nat.reduceLT,Nat.reduceSub,Nat.reduceAdd]
    exact back fun h=>c1 h.1
   ·simp only [nrm,xdn,reduceIte,Nat.reduceLT,Nat.reduceSub,Nat.reduceAdd];omega
 ·simp only [nrm,xdn,reduceIte,Nat.reduceLT,Nat.reduceSub,Nat.reduceAdd,aN] at hge
  refine aj ?_
  simp only [nrm,xdn,reduceIte,Nat.reduceLT,Nat.reduceSub,Nat.reduceAdd]
  rw [ht,List.drop_of_length_le (by omega),List.drop_of_length_le (by omega)]
  rfl
end Go.Proofs.Ytpmamacjepcdmaa

namespace Go.Proofs.Ytpmamacjepcdmaa
open Go Go.Sy Go.RowKit
structure mR (ns nh : Nat) (s : bp) : Prop where
 r0 : 0≤s.refs
 r1 : s.refs≤1000
 t0 : 0≤s.till
 t1 : s.till≤2000000
 k : Key.Ok s.k
 n0 : s.next≤ns
 n1 : -(nh : Int)≤s.next
theorem gA (k : Key) : checkKey k=0↔Key.Ok k:=by
 unfold checkKey
 split
 ·rename_i h;exact ⟨fun _=>h,fun _=>rfl⟩
 ·rename_i h;exact ⟨fun e=>(by cases e),fun e=>absurd e h⟩
theorem wZ {ns nh : Nat} {s : bp} : gb ns nh s=0↔mR ns nh s:=by
 unfold gb
 constructor
 ·intro h
  split at h
  ·cases h
  ·split at h
   ·cases h
   ·rename_i h1 h2
    split at h
    ·rename_i h3
     exact ⟨by omega,by omega,by omega,by omega,(gA _).1 (by omega),h3.1,h3.2⟩
    ·cases h
 ·intro h
  have:=(gA _).2 h.k
  have h0:=h.r0
  have h1:=h.r1
  have h2:=h.t0
  have h3:=h.t1
  rw [if_neg (by omega),if_neg (by omega),if_pos ⟨h.n0,h.n1⟩]
theorem kD {ns nh : Nat} : ∀ {l : List bp},Hq ns nh l=0↔∀ s∈l,mR ns nh s
 | []=>by simp [Hq]
 | s :: l=>by
  have ih:=kD (ns:=ns) (nh:=nh) (l:=l)
  simp only [Hq,List.mem_cons,forall_eq_or_imp,← wZ] at ih ⊢
  split
  ·rename_i h;constructor
   ·intro h';exact absurd h' h
   ·intro h';exact absurd h'.1 h
  ·rename_i h;constructor
   ·intro h';exact ⟨by omega,ih.1 h'⟩
   ·intro h';exact ih.2 h'.2
structure ug (ns nh : Nat) (h k : Int) : Prop where
 h0 : h≠0
 n0 : h≤ns
 n1 : -(nh : Int)≤h
 k0 : -1≤k
 k1 : k < 5
theorem re {ns nh : Nat} {h k : Int} : gw ns nh h k=0↔ug ns nh h k:=by
 unfold gw
 constructor
 ·intro e
  split at e
  ·cases e
  ·split at e
   ·rename_i h1 h2
    split at e
    ·cases e
    ·exact ⟨h1,h2.1,h2.2,by omega,by omega⟩
   ·cases e
 ·intro h
  have h3:=h.k0
  have h4:=h.k1
  rw [if_neg h.h0,if_pos ⟨h.n0,h.n1⟩,if_neg (by omega)]
theorem lg {ns nh : Nat} : ∀ {l m : List Int},m.length=l.length→(cV ns nh l m=0↔∀ i,i < l.length→ug ns nh (l.getD i 0) (m.getD i 0))
 | [],_,_=>by simp [cV]
 | h :: l,[],e=>by simp at e
 | h :: l,k :: m,e=>by
  have ih:=lg (ns:=ns) (nh:=nh) (l:=l) (m:=m) (by simpa using e)
  simp only [cV]
  split
  ·rename_i hx;constructor
   ·intro h';exact absurd h' hx
   ·intro h';exact absurd (re.2 (by simpa using h' 0 (by simp))) hx
  ·rename_i hx
   rw [ih]
   constructor
   ·intro h' i hi
    cases i with
    | zero=>exact re.1 (by simpa using hx)
    | succ i=>simpa using h' i (by simpa using hi)
   ·intro h' i hi
    simpa using h' (i + 1) (by simpa using hi)
theorem gT (l : List Bool) (i j : Nat) (b : Bool) : (l.set i b).getD j false=if i=j∧i < l.length then b else l.getD j false:=by
 simp only [List.getD_eq_getElem?_getD,List.getElem?_set]
 by_cases h : i=j
 ·subst h
  by_cases h' : i < l.length
  ·simp [h']
  ·simp [h']
 ·simp [h]
theorem pB {slots : List bp} : ∀ {l : List Int} {seen : List Bool},seen.length=slots.length→((bD slots l seen).1=0↔(∀ a∈l,0≤a∧a < slots.length∧(slots.getD a.toNat default).refs=0)∧l.Nodup∧∀ a∈l,seen.getD a.toNat false=false)
 | [],_,_=>by simp [bD]
 | k :: l,seen,hs=>by
  have ih:=pB (slots:=slots) (l:=l) (seen:=seen.set k.toNat true) (by simpa using hs)
  simp only [bD]
  split
  ·rename_i h;constructor
   ·intro h';cases h'
   ·intro h';have:=h'.1 k (by simp);omega
  ·rename_i h
   split
   ·rename_i h1;constructor
    ·intro h';cases h'
    ·intro h';exact absurd (h'.1 k (by simp)).2.2 h1
   ·rename_i h1
    split
    ·rename_i h2;constructor
     ·intro h';cases h'
     ·intro h';have:=h'.2.2 k (by simp);rw [h2] at this;cases this
    ·rename_i h2
     rw [ih]
     constructor
     ·rintro ⟨a1,a2,a3⟩
      have hk : k ∉ l:=fun hk=>by
       have:=a3 k hk
       rw [gT,if_pos ⟨rfl,by omega⟩] at this
       cases this
      refine ⟨fun a ha=>?_,List.nodup_cons.2 ⟨hk,a2⟩,fun a ha=>?_⟩
      ·rcases List.mem_cons.1 ha with rfl | ha
       ·exact ⟨by omega,by omega,by omega⟩
       ·exact a1 a ha
      ·rcases List.mem_cons.1 ha with rfl | ha
       ·simpa using h2
       ·have:=a3 a ha
        rw [gT] at this
        split at this
        ·cases this
        ·exact this
     ·rintro ⟨a1,a2,a3⟩
      have a2:=List.nodup_cons.1 a2
      refine ⟨fun a ha=>a1 a (by simp [ha]),a2.2,fun a ha=>?_⟩
      rw [gT,if_neg]
      ·exact a3 a (by simp [ha])
      ·rintro ⟨e,_⟩
       have h3:=a1 a (by simp [ha])
       have : k=a:=by omega
       subst this
       exact a2.1 ha
theorem jL {slots : List bp} : ∀ {l : List Int} {seen : List Bool},seen.length=slots.length→(bD slots l seen).1=0→∀ i,i < slots.length→((bD slots l seen).2.getD i false=true↔seen.getD i false=true∨(i : Int)∈l)
 | [],_,_,_,i,_=>by simp [bD]
 | k :: l,seen,hs,h0,i,hi=>by
  simp only [bD] at h0 ⊢
  split at h0
  ·cases h0
  ·rename_i h
   split at h0
   ·cases h0
   ·rename_i h1
    split at h0
    ·cases h0
    ·rename_i h2
     rw [if_neg h,if_neg h1,if_neg h2,jL (by simpa using hs) h0 i hi,gT,List.mem_cons]
     by_cases e : k.toNat=i
     ·have : (i : Int)=k:=by omega
      simp [e,this,hs,hi]
     ·have : (i : Int)≠k:=by omega
      simp [e,this]
theorem mj : ∀ {l : List bp} {m : List Bool},m.length=l.length→(Hv l m=0↔∀ i,i < l.length→(l.getD i default).refs=0→m.getD i false=true)
 | [],_,_=>by simp [Hv]
 | s :: l,[],e=>by simp at e
 | s :: l,b :: m,e=>by
  have ih:=mj (l:=l) (m:=m) (by simpa using e)
  simp only [Hv]
  split
  ·rename_i hx;constructor
   ·intro h';cases h'
   ·intro h'
    have:=h' 0 (by simp) (by simpa using hx.1)
    rw [List.getD_cons_zero,hx.2] at this
    cases this
  ·rename_i hx
   rw [ih]
   constructor
   ·intro h' i hi hr
    cases i with
    | zero =>
     simp only [List.getD_cons_zero] at hr ⊢
     cases b with
     | true=>rfl
     | false=>exact absurd ⟨hr,rfl⟩ hx
    | succ i=>simpa using h' i (by simpa using hi) (by simpa using hr)
   ·intro h' i hi hr
    simpa using h' (i + 1) (by simpa using hi) (by simpa using hr)
def msl (m : Mem) (i : Nat) : bp:=m.slots.getD i default
structure bB (m : Mem) : Prop where
 ns : m.slots.length≤12
 nh1 : 1≤m.heads.length
 nh4 : m.heads.length≤4
 nl : m.locks.length=m.heads.length
 ma : 0≤m.now
 Ik : m.now≤1000000
 slot : ∀ s∈m.slots,mR m.slots.length m.heads.length s
 head : ∀ i,i < m.heads.length→ug m.slots.length m.heads.length (m.heads.getD i 0) (m.locks.getD i 0)
 free : ∀ a∈m.free,0≤a∧a < m.slots.length∧(msl m a.toNat).refs=0
 nodup : m.free.Nodup
 leak : ∀ i,i < m.slots.length→(msl m i).refs=0→(i : Int)∈m.free
theorem dT (m : Mem) : cP m=0↔bB m:=by
 have hsl : (List.replicate m.slots.length false).length=m.slots.length:=by simp
 have hrep : ∀ i,(List.replicate m.slots.length false).getD i false=false:=fun i=>by
  simp only [List.getD_eq_getElem?_getD,List.getElem?_replicate]
  split <;> rfl
 have hF:=pB (slots:=m.slots) (l:=m.free) hsl
 unfold cP
 constructor
 ·intro h
  split at h
  ·cases h
  ·rename_i h1
   split at h
   ·cases h
   ·rename_i h2
    split at h
    ·cases h
    ·rename_i h3
     split at h
     ·rename_i h4;exact absurd h h4
     ·rename_i h4
      split at h
      ·rename_i h5;exact absurd h h5
      ·rename_i h5
       split at h
       ·rename_i h6;exact absurd h h6
       ·rename_i h6
        have h6 : (bD m.slots m.free (List.replicate m.slots.length false)).1=0:=Classical.not_not.1 h6
        obtain ⟨f1,f2,_⟩:=hF.1 h6
        have hL:=(mj (by rw [iA,hsl])).1 h
        refine ⟨by omega,by omega,by omega,by omega,by omega,by omega,kD.1 (Classical.not_not.1 h4),(lg (by omega)).1 (Classical.not_not.1 h5),f1,f2,fun i hi hr=>?_⟩
        have:=(jL hsl h6 i hi).1 (hL i hi hr)
        rw [hrep] at this
        simpa using this
 ·intro h
  have h1:=h.ns
  have h2:=h.nh1
  have h3:=h.nh4
  have h4:=h.nl
  have h5:=h.ma
  have h6:=h.Ik
  have hs:=kD.2 h.slot
  have hh:=(lg h.nl).2 h.head
  have hf:=hF.2 ⟨h.free,h.nodup,fun a _=>hrep _⟩
  rw [if_neg (by omega),if_neg (by omega),if_neg (by omega),hs,if_neg (fun x=>x rfl),hh,if_neg (fun x=>x rfl),hf,if_neg (fun x=>x rfl)]
  refine (mj (by rw [iA,hsl])).2 fun i hi hr=>?_
  exact (jL hsl hf i hi).2 (.inr (h.leak i hi hr))
theorem bB.sl {m : Mem} (h : bB m) {i : Nat} (hi : i < m.slots.length) : mR m.slots.length m.heads.length (msl m i):=by
 refine h.slot _ ?_
 unfold msl
 rw [List.getD_eq_getElem?_getD,List.getElem?_eq_getElem hi,Option.getD_some]
 exact List.getElem_mem hi
end Go.Proofs.Ytpmamacjepcdmaa

namespace Go.Proofs.Ytpmamacjepcdmaa
open Go Go.Sy Go.RowKit
set_option linter.unusedSimpArgs false
set_option linter.unusedVariables false
theorem aC {α : Type} (f g : α→α) : ∀ (l : List α) (i : Nat),(l.modify i f).modify i g=l.modify i (fun a=>g (f a))
 | [],_=>by simp
 | a :: l,0=>by simp
 | a :: l,i + 1=>by simp [aC f g l i]
theorem Hw {α : Type} [Inhabited α] (f g : α→α) : ∀ (l : List α) (i : Nat),f (l.getD i default)=g (l.getD i default)→l.modify i f=l.modify i g
 | [],_,_=>by simp
 | a :: l,0,h=>by simpa using h
 | a :: l,i + 1,h=>by simp [Hw f g l i (by simpa using h)]
theorem pA {l : List Int} {i : Nat} (h : i < l.length) : l.getD i 0∈l:=by
 rw [List.getD_eq_getElem?_getD,List.getElem?_eq_getElem h];exact List.getElem_mem h
def dx (many buckets : Int) : Mem × Int :=
 if many < 0∨12 < many∨buckets < 1∨4 < buckets then (Mem.none,3)
 else (⟨List.replicate many.toNat default,(List.range buckets.toNat).map (fun b : Nat=>-1 - (b : Int)),(List.range many.toNat).map (fun k : Nat=>many - 1 - (k : Int)),List.replicate buckets.toNat (-1),0⟩,0)
def bc (m : Mem) : Int:=m.free.getD (m.free.length - 1) 0
def cp (k : Key) (till : Int) (s : bp) : bp:=⟨1,k,till,false,s.next⟩
def take (m : Mem) (k : Key) (till : Int) : Mem × Int × Int :=
 if m.free.length=0 then (m,0,7)
 else ({ m with slots:=m.slots.modify (bc m).toNat (cp k till),free:=m.free.take (m.free.length - 1)},bc m,0)
def bx (n : Int) (s : bp) : bp:={ s with refs:=s.refs + n}
def hold (m : Mem) (a : Int) : Mem × Bool :=
 if (msl m a.toNat).refs=0∨(msl m a.toNat).refs=1000 then (m,false) else ({ m with slots:=m.slots.modify a.toNat (bx 1)},true)
def put (m : Mem) (a : Int) : Mem :=
 if (msl m a.toNat).refs=0 then m
 else if (msl m a.toNat).refs=1 then { m with slots:=m.slots.modify a.toNat (bx (-1)),free:=m.free ++ [a]}
 else { m with slots:=m.slots.modify a.toNat (bx (-1))}
def taken (m : Mem) (k : Key) (till : Int) : Mem × Int × Int :=
 if cP m≠0 then (Mem.none,0,cP m) else if checkKey k≠0 then (Mem.none,0,checkKey k) else if till < 0∨2000000 < till then (Mem.none,0,3)
 else if (take m k till).2.2≠0 then (Mem.none,0,(take m k till).2.2) else ((take m k till).1,(take m k till).2.1,0)
def held (m : Mem) (a : Int) : Mem × Int :=
 if cP m≠0 then (Mem.none,cP m) else if 0≤a∧a < m.slots.length then (if (hold m a).2=true then ((hold m a).1,0) else (Mem.none,8)) else (Mem.none,5)
def s57 : Sig:=⟨[.one (.int .i64),.one (.int .i64)],[.agg [.own 52 kS,.own 3 kI,.own 3 kI,.own 3 kI,.int .i64],.one (.int .i64)]⟩
def d57 : DC:=⟨s57,fun _=>True,fun l=>(dx (l.getD 0 .u).int (l.getD 1 .u).int).1.cds ++ [.i (dx (l.getD 0 .u).int (l.getD 1 .u).int).2]⟩
def l57 : List (Nat × Ct):=[]
def z57 : Cx:={ T:=ttA,C:=sigs l57,F:=[],hints:=[⟨57,5,false,[(28,.lt)],[(1,2,.own 3 kI)],[],[],0,0,false⟩,⟨57,10,false,[(42,.lt)],[(1,1,.own 3 kI),(1,3,.own 3 kI)],[],[],0,0,false⟩],sig:=s57}
def t57 : Tree :=
 (.ite (.lt (.var 0) (.int 0))
 (.ret [.nil,.nil,.nil,.nil,.int 0,.int 3])
 (.ite (.lt (.int 12) (.var 0))
 (.ret [.nil,.nil,.nil,.nil,.int 0,.int 3])
 (.ite (.lt (.var 1) (.int 1))
 (.ret [.nil,.nil,.nil,.nil,.int 0,.int 3])
 (.ite (.lt (.int 4) (.var 1))
 (.ret [.nil,.nil,.nil,.nil,.int 0,.int 3])
 (.need (.le (.int 0) (.var 0))
 (.need (.le (.var 0) (.int 2932031007402))
 (.loop 2 [.int .i64,.sl 8 [.int .i64]] [.int 0,.nil]
 (.ite (.lt (.var 3) (.var 0))
 (.need (.fit (.sub (.var 0) (.int 1)))
 (.need (.fit (.sub (.sub (.var 0) (.int 1)) (.var 3)))
 (.need (.le (.add (.len (.var 4)) (.int 1)) (.int 17592186044416))
 (.need (.fit (.add (.var 3) (.int 1)))
 (.back 2 [.add (.var 3) (.int 1),.app (.var 4) (.cons (.sub (.sub (.var 0) (.int 1)) (.var 3)) .row0)])))))
 (.loop 5 [.int .i64,.sl 8 [.int .i64],.sl 8 [.int .i64]] [.int 0,.nil,.nil]
 (.ite (.lt (.var 6) (.var 1))
 (.need (.fit (.sub (.int (-1)) (.var 6)))
 (.need (.le (.add (.len (.var 7)) (.int 1)) (.int 17592186044416))
 (.need (.le (.add (.len (.var 8)) (.int 1)) (.int 17592186044416))
 (.need (.fit (.add (.var 6) (.int 1)))
 (.back 5 [.add (.var 6) (.int 1),.app (.var 7) (.cons (.sub (.int (-1)) (.var 6)) .row0),.app (.var 8) (.cons (.int (-1)) .row0)])))))
 (.need (.le (.var 0) (.len (.rep (.var 0) (.cons (.int 0) (.cons (.int 0) (.cons (.int 0) (.cons (.int 0) (.cons (.bool false) (.cons (.int 0) .row0)))))))))
 (.ret [.take (.var 0) (.rep (.var 0) (.cons (.int 0) (.cons (.int 0) (.cons (.int 0) (.cons (.int 0) (.cons (.bool false) (.cons (.int 0) .row0))))))),.var 7,.var 4,.var 8,.int 0,.int 0]))))))))))))
theorem run57 : run z57 6000 [.code (Try.f57.body.getD .skip),.fin (bt z57 Try.f57.results.toList 50)] { fn:=57,tmps:=z57.sig.aM ++ List.replicate (Try.f57.ntmps - z57.sig.aM.length) (.v (.one .undef)),stk:=[],h:=z57.sig.h0,nx:=z57.sig.ins.length,known:=[]}=t57:=by kernel_rfl
theorem ok57 : cB Try.prog 57 d57.ct:=by
 refine aD (d:=d57) (Z:=z57) (Γ:=gam l57) (fn:=Try.f57) (c:=Try.f57.body.getD .skip) (bg tok mixed all_nil bh) Try.func57 (by kernel_rfl) (by kernel_rfl) rfl run57 fun E hk hp=>?_
 obtain ⟨hk0,hk1,_⟩:=hk
 obtain ⟨x,e0⟩:=ok_int (d:=E 0) hk0
 obtain ⟨x2,e1⟩:=ok_int (d:=E 1) hk1
 have el : aH E d57.sig.ins.length=[.i x,.i x2]:=by
  show [E 0,E 1]=_
  rw [e0,e1]
 rw [el] at hp
 rw [el]
 rw [Env.bJ el]
 clear el e0 e1
 have hc : d57.fn [.i x,.i x2]=(dx x x2).1.cds ++ [.i (dx x x2).2]:=by simp only [d57,List.getD_cons_zero,List.getD_cons_succ,CD.aR]
 rw [hc]
 unfold dx
 unfold t57
 refine G0 (fun h=>aj ?_) (fun h1=>G0 (fun h=>aj ?_) (fun h2=>G0 (fun h=>aj ?_) (fun h3=>G0 (fun h=>aj ?_) (fun h4=>?_))))
 case refine_1 | refine_2 | refine_3 | refine_4 =>
  simp only [nrm,xdn,reduceIte,Nat.reduceLT,Nat.reduceSub,Nat.reduceAdd] at *
  rw [if_pos (by omega)]
  rfl
 simp only [nrm,xdn,reduceIte,Nat.reduceLT,Nat.reduceSub,Nat.reduceAdd] at h1 h2 h3 h4
 rw [if_neg (by omega)]
 obtain ⟨n,rfl⟩:=Int.eq_ofNat_of_zero_le (show 0≤x by omega)
 obtain ⟨b,rfl⟩:=Int.eq_ofNat_of_zero_le (show 0≤x2 by omega)
 refine eh (by simp only [nrm,xdn,reduceIte,Nat.reduceLT,Nat.reduceSub,Nat.reduceAdd];omega) (eh (by simp only [nrm,xdn,reduceIte,Nat.reduceLT,Nat.reduceSub,Nat.reduceAdd];omega) ?_)
 refine bO (fun ds=>∃ i : Nat,ds=[.i i,af ((List.range i).map fun k : Nat=>(n : Int) - 1 - (k : Int))]∧i≤n) (fun ds=>n - (ds.getD 0 .u).int.toNat) ⟨0,rfl,by omega⟩ ?_
 rintro ds - ⟨i,rfl,hi⟩
 refine G0 (fun hlt=>?_) (fun hge=>?_)
 ·simp only [nrm,xdn,reduceIte,Nat.reduceLT,Nat.reduceSub,Nat.reduceAdd] at hlt
  refine G1 (by simp only [nrm,xdn,reduceIte,Nat.reduceLT,Nat.reduceSub,Nat.reduceAdd];omega) (G1 (by simp only [nrm,xdn,reduceIte,Nat.reduceLT,Nat.reduceSub,Nat.reduceAdd];omega) (eh (by simp only [nrm,xdn,reduceIte,Nat.reduceLT,Nat.reduceSub,Nat.reduceAdd,aw,List.length_map,List.length_range];omega) (G1 (by simp only [nrm,xdn,reduceIte,Nat.reduceLT,Nat.reduceSub,Nat.reduceAdd];omega) (aV ⟨⟨i + 1,?_,by omega⟩,?_⟩))))
  ·simp only [nrm,xdn,reduceIte,Nat.reduceLT,Nat.reduceSub,Nat.reduceAdd,CD.row,List.headD_cons,gV,List.range_succ,List.map_append];rfl
  ·simp only [nrm,xdn,reduceIte,Nat.reduceLT,Nat.reduceSub,Nat.reduceAdd];omega
 simp only [nrm,xdn,reduceIte,Nat.reduceLT,Nat.reduceSub,Nat.reduceAdd] at hge
 have hin : i=n:=by omega
 subst hin
 refine bO (fun ds=>∃ j : Nat,ds=[.i j,af ((List.range j).map fun k : Nat=>-1 - (k : Int)),af (List.replicate j (-1))]∧j≤b) (fun ds=>b - (ds.getD 0 .u).int.toNat) ⟨0,rfl,by omega⟩ ?_
 rintro ds - ⟨j,rfl,hj⟩
 refine G0 (fun hlt=>?_) (fun hge=>?_)
 ·simp only [nrm,xdn,reduceIte,Nat.reduceLT,Nat.reduceSub,Nat.reduceAdd] at hlt
  refine G1 (by simp only [nrm,xdn,reduceIte,Nat.reduceLT,Nat.reduceSub,Nat.reduceAdd];omega) (eh (by simp only [nrm,xdn,reduceIte,Nat.reduceLT,Nat.reduceSub,Nat.reduceAdd,aw,List.length_map,List.length_range];omega) (eh (by simp only [nrm,xdn,reduceIte,Nat.reduceLT,Nat.reduceSub,Nat.reduceAdd,aw,List.length_replicate];omega) (G1 (by simp only [nrm,xdn,reduceIte,Nat.reduceLT,Nat.reduceSub,Nat.reduceAdd];omega) (aV ⟨⟨j + 1,?_,by omega⟩,?_⟩))))
  ·simp only [nrm,xdn,reduceIte,Nat.reduceLT,Nat.reduceSub,Nat.reduceAdd,CD.row,List.headD_cons,gV,List.range_succ,List.map_append,List.replicate_succ'];rfl
  ·simp only [nrm,xdn,reduceIte,Nat.reduceLT,Nat.reduceSub,Nat.reduceAdd];omega
 simp only [nrm,xdn,reduceIte,Nat.reduceLT,Nat.reduceSub,Nat.reduceAdd] at hge
 have hjb : j=b:=by omega
 subst hjb
 refine ag (by simp only [nrm,xdn,reduceIte,Nat.reduceLT,Nat.reduceSub,Nat.reduceAdd,List.length_replicate,Int.toNat_natCast];omega) (aj ?_)
 simp only [nrm,xdn,reduceIte,Nat.reduceLT,Nat.reduceSub,Nat.reduceAdd,CD.row,List.headD_cons,BM,yO,Int.toNat_natCast,Mem.cds,lca]
 rw [List.take_of_length_le (by simp)]
def s161 : Sig:=⟨[.agg [.fz kS,.fz kI,.fz kI,.fz kI,.int .i64]],[.agg [.own 52 kS,.own 3 kI,.own 3 kI,.own 3 kI,.int .i64]]⟩
def d161 : DC:=⟨s161,fun _=>True,fun l=>(Mem.of l).cds⟩
def l161 : List (Nat × Ct):=[(205,d205.ct),(53,d53.ct)]
def z161 : Cx:={ T:=ttA,C:=sigs l161,F:=[],hints:=[],sig:=s161}
def t161 : Tree :=
 (.call 205 [.var 0] 5
 (.call 53 [.var 1] 6
 (.call 53 [.var 2] 7
 (.call 53 [.var 3] 8
 (.ret [.var 5,.var 6,.var 7,.var 8,.var 4])))))
theorem run161 : run z161 6000 [.code (Try.f161.body.getD .skip),.fin (bt z161 Try.f161.results.toList 50)] { fn:=161,tmps:=z161.sig.aM ++ List.replicate (Try.f161.ntmps - z161.sig.aM.length) (.v (.one .undef)),stk:=[],h:=z161.sig.h0,nx:=z161.sig.ins.length,known:=[]}=t161:=by kernel_rfl
theorem ok161 : cB Try.prog 161 d161.ct:=by
 refine aD (d:=d161) (Z:=z161) (Γ:=gam l161) (fn:=Try.f161) (c:=Try.f161.body.getD .skip) (bg tok mixed (all_cons ok205 (all_cons ok53 all_nil)) bh) Try.func161 (by kernel_rfl) (by kernel_rfl) rfl run161 fun E hk hp=>?_
 obtain ⟨hk0,hk1,hk2,hk3,hk4,_⟩:=hk
 obtain ⟨m,e0,e1,e2,e3,e4,b0,b1,b2,b3⟩:=cv (d0:=E 0) (d1:=E 1) (d2:=E 2) (d3:=E 3) (d4:=E 4) hk0 hk1 hk2 hk3 hk4
 have el : aH E d161.sig.ins.length=[au m.slots,af m.heads,af m.free,af m.locks,.i m.now]:=by
  show [E 0,E 1,E 2,E 3,E 4]=_
  rw [e0,e1,e2,e3,e4]
 rw [el] at hp
 rw [el]
 rw [Env.bJ el]
 clear el e0 e1 e2 e3 e4
 simp only [d161,mem_of,aA]
 unfold t161
 refine ai d205 [au m.slots] rfl trivial (by simp only [nrm,xdn,reduceIte,Nat.reduceLT,Nat.reduceSub,Nat.reduceAdd,d205,kA]) (ai d53 [af m.heads] rfl trivial (by simp only [nrm,xdn,reduceIte,Nat.reduceLT,Nat.reduceSub,Nat.reduceAdd,d53,bY]) (ai d53 [af m.free] rfl trivial (by simp only [nrm,xdn,reduceIte,Nat.reduceLT,Nat.reduceSub,Nat.reduceAdd,d53,bY]) (ai d53 [af m.locks] rfl trivial (by simp only [nrm,xdn,reduceIte,Nat.reduceLT,Nat.reduceSub,Nat.reduceAdd,d53,bY]) (aj ?_))))
 simp only [nrm,xdn,reduceIte,Nat.reduceLT,Nat.reduceSub,Nat.reduceAdd,Mem.cds]
def s162 : Sig:=⟨[.ptr [.own 52 kS,.own 3 kI,.own 3 kI,.own 3 kI,.int .i64],.agg [.int .i64,.int .i64],.one (.int .i64)],[.one (.int .i64),.one (.int .i64)]⟩
def d162 : DC:=⟨s162,fun l=>(Mem.of l).free.length=0∨(0≤bc (Mem.of l)∧bc (Mem.of l) < (Mem.of l).slots.length),fun l=>(take (Mem.of l) (Key.of (l.drop 5)) (l.getD 7 .u).int).1.cds ++ [.i (take (Mem.of l) (Key.of (l.drop 5)) (l.getD 7 .u).int).2.1,.i (take (Mem.of l) (Key.of (l.drop 5)) (l.getD 7 .u).int).2.2]⟩
def l162 : List (Nat × Ct):=[]
def z162 : Cx:={ T:=ttA,C:=sigs l162,F:=[],hints:=[],sig:=s162}
def t162 : Tree :=
 (.ite (.eq (.len (.var 2)) (.int 0))
 (.ret [.var 0,.var 1,.var 2,.var 3,.var 4,.int 0,.int 7])
 (.need (.fit (.sub (.len (.var 2)) (.int 1)))
 (.need (.le (.int 0) (.sub (.len (.var 2)) (.int 1)))
 (.need (.lt (.sub (.len (.var 2)) (.int 1)) (.len (.var 2)))
 (.need (.le (.sub (.len (.var 2)) (.int 1)) (.len (.var 2)))
 (.need (.le (.int 0) (.cell (.var 2) (.sub (.len (.var 2)) (.int 1)) 0))
 (.need (.lt (.cell (.var 2) (.sub (.len (.var 2)) (.int 1)) 0) (.len (.var 0)))
 (.ret [.set (.set (.set (.set (.set (.var 0) (.cell (.var 2) (.sub (.len (.var 2)) (.int 1)) 0) 0 (.int 1)) (.cell (.var 2) (.sub (.len (.var 2)) (.int 1)) 0) 1 (.var 5)) (.cell (.var 2) (.sub (.len (.var 2)) (.int 1)) 0) 2 (.var 6)) (.cell (.var 2) (.sub (.len (.var 2)) (.int 1)) 0) 3 (.var 7)) (.cell (.var 2) (.sub (.len (.var 2)) (.int 1)) 0) 4 (.bool false),.var 1,.take (.sub (.len (.var 2)) (.int 1)) (.var 2),.var 3,.var 4,.cell (.var 2) (.sub (.len (.var 2)) (.int 1)) 0,.int 0]))))))))
theorem run162 : run z162 6000 [.code (Try.f162.body.getD .skip),.fin (bt z162 Try.f162.results.toList 50)] { fn:=162,tmps:=z162.sig.aM ++ List.replicate (Try.f162.ntmps - z162.sig.aM.length) (.v (.one .undef)),stk:=[],h:=z162.sig.h0,nx:=z162.sig.ins.length,known:=[]}=t162:=by kernel_rfl
theorem ok162 : cB Try.prog 162 d162.ct:=by
 refine aD (d:=d162) (Z:=z162) (Γ:=gam l162) (fn:=Try.f162) (c:=Try.f162.body.getD .skip) (bg tok mixed all_nil bh) Try.func162 (by kernel_rfl) (by kernel_rfl) rfl run162 fun E hk hp=>?_
 obtain ⟨hk0,hk1,hk2,hk3,hk4,hk5,hk6,hk7,_⟩:=hk
 obtain ⟨m,e0,e1,e2,e3,e4,b0,b1,b2,b3⟩:=cv (d0:=E 0) (d1:=E 1) (d2:=E 2) (d3:=E 3) (d4:=E 4) hk0 hk1 hk2 hk3 hk4
 obtain ⟨k,e5,e6⟩:=vM (d0:=E 5) (d1:=E 6) hk5 hk6
 obtain ⟨x,e7⟩:=ok_int (d:=E 7) hk7
 have el : aH E d162.sig.ins.length=[au m.slots,af m.heads,af m.free,af m.locks,.i m.now,.i k.a,.i k.b,.i x]:=by
  show [E 0,E 1,E 2,E 3,E 4,E 5,E 6,E 7]=_
  rw [e0,e1,e2,e3,e4,e5,e6,e7]
 rw [el] at hp
 rw [el]
 rw [Env.bJ el]
 clear el e0 e1 e2 e3 e4 e5 e6 e7
 simp only [d162,mem_of,aA] at hp
 have hc : d162.fn [au m.slots,af m.heads,af m.free,af m.locks,.i m.now,.i k.a,.i k.b,.i x]=(take m k x).1.cds ++ [.i (take m k x).2.1,.i (take m k x).2.2]:=by simp only [d162,mem_of,aA,List.drop_succ_cons,List.drop_zero,jK,eZ,List.getD_cons_zero,List.getD_cons_succ,CD.aR]
 rw [hc]
 unfold take
 unfold t162
 refine G0 (fun h=>aj ?_) (fun h=>?_)
 ·simp only [nrm,xdn,reduceIte,Nat.reduceLT,Nat.reduceSub,Nat.reduceAdd,aw] at h
  rw [if_pos (by omega)]
  simp only [nrm,xdn,reduceIte,Nat.reduceLT,Nat.reduceSub,Nat.reduceAdd,Mem.cds];rfl
 simp only [nrm,xdn,reduceIte,Nat.reduceLT,Nat.reduceSub,Nat.reduceAdd,aw] at h
 rw [if_neg (by omega)]
 have e : ((m.free.length : Int) - 1).toNat=m.free.length - 1:=by omega
 have e2 : m.free.getD (m.free.length - 1) 0=bc m:=rfl
 have e3 : ((af m.free).rows.getD (m.free.length - 1) []).getD 0 .u=.i (bc m):=iK (by omega)
 refine G1 (by simp only [nrm,xdn,reduceIte,Nat.reduceLT,Nat.reduceSub,Nat.reduceAdd,aw];omega) (ag (by simp only [nrm,xdn,reduceIte,Nat.reduceLT,Nat.reduceSub,Nat.reduceAdd,aw];omega) (ag (by simp only [nrm,xdn,reduceIte,Nat.reduceLT,Nat.reduceSub,Nat.reduceAdd,aw];omega) (ag (by simp only [nrm,xdn,reduceIte,Nat.reduceLT,Nat.reduceSub,Nat.reduceAdd,aw];omega) (ag (by simp only [nrm,xdn,reduceIte,Nat.reduceLT,Nat.reduceSub,Nat.reduceAdd,aw,e,aG,e2];omega) (ag (by simp only [nrm,xdn,reduceIte,Nat.reduceLT,Nat.reduceSub,Nat.reduceAdd,aw,e,aG,e2,aN];omega) (aj ?_))))))
 simp only [nrm,xdn,reduceIte,Nat.reduceLT,Nat.reduceSub,Nat.reduceAdd,aw,e,aG,e2,e3,vI,FM,FL,FK,CW,aC,By,Mem.cds,lca]
 rfl
def s166 : Sig:=⟨[.ptr [.own 52 kS,.own 3 kI,.own 3 kI,.own 3 kI,.int .i64],.one (.int .i64)],[.one (.bool)]⟩
def d166 : DC:=⟨s166,fun l=>0≤(l.getD 5 .u).int∧(l.getD 5 .u).int < (Mem.of l).slots.length∧0≤(msl (Mem.of l) (l.getD 5 .u).int.toNat).refs∧(msl (Mem.of l) (l.getD 5 .u).int.toNat).refs≤1000,fun l=>(hold (Mem.of l) (l.getD 5 .u).int).1.cds ++ [.b (hold (Mem.of l) (l.getD 5 .u).int).2]⟩
def l166 : List (Nat × Ct):=[]
def z166 : Cx:={ T:=ttA,C:=sigs l166,F:=[],hints:=[],sig:=s166}
def t166 : Tree :=
 (.need (.le (.int 0) (.var 5))
 (.need (.lt (.var 5) (.len (.var 0)))
 (.ite (.eq (.cell (.var 0) (.var 5) 0) (.int 0))
 (.ret [.var 0,.var 1,.var 2,.var 3,.var 4,.bool false])
 (.ite (.eq (.cell (.var 0) (.var 5) 0) (.int 1000))
 (.ret [.var 0,.var 1,.var 2,.var 3,.var 4,.bool false])
 (.need (.fit (.add (.cell (.var 0) (.var 5) 0) (.int 1)))
 (.ret [.set (.var 0) (.var 5) 0 (.add (.cell (.var 0) (.var 5) 0) (.int 1)),.var 1,.var 2,.var 3,.var 4,.bool true]))))))
theorem run166 : run z166 6000 [.code (Try.f166.body.getD .skip),.fin (bt z166 Try.f166.results.toList 50)] { fn:=166,tmps:=z166.sig.aM ++ List.replicate (Try.f166.ntmps - z166.sig.aM.length) (.v (.one .undef)),stk:=[],h:=z166.sig.h0,nx:=z166.sig.ins.length,known:=[]}=t166:=by kernel_rfl
theorem ok166 : cB Try.prog 166 d166.ct:=by
 refine aD (d:=d166) (Z:=z166) (Γ:=gam l166) (fn:=Try.f166) (c:=Try.f166.body.getD .skip) (bg tok mixed all_nil bh) Try.func166 (by kernel_rfl) (by kernel_rfl) rfl run166 fun E hk hp=>?_
 obtain ⟨hk0,hk1,hk2,hk3,hk4,hk5,_⟩:=hk
 obtain ⟨m,e0,e1,e2,e3,e4,b0,b1,b2,b3⟩:=cv (d0:=E 0) (d1:=E 1) (d2:=E 2) (d3:=E 3) (d4:=E 4) hk0 hk1 hk2 hk3 hk4
 obtain ⟨x,e5⟩:=ok_int (d:=E 5) hk5
 have el : aH E d166.sig.ins.length=[au m.slots,af m.heads,af m.free,af m.locks,.i m.now,.i x]:=by
  show [E 0,E 1,E 2,E 3,E 4,E 5]=_
  rw [e0,e1,e2,e3,e4,e5]
 rw [el] at hp
 rw [el]
 rw [Env.bJ el]
 clear el e0 e1 e2 e3 e4 e5
 simp only [d166,mem_of,aA,List.getD_cons_zero,List.getD_cons_succ,CD.aR] at hp ⊢
 unfold hold
 unfold t166
 have hm : m.slots.getD x.toNat default=msl m x.toNat:=rfl
 refine ag (by simp only [nrm,xdn,reduceIte,Nat.reduceLT,Nat.reduceSub,Nat.reduceAdd];omega) (ag (by simp only [nrm,xdn,reduceIte,Nat.reduceLT,Nat.reduceSub,Nat.reduceAdd,aN];omega) (G0 (fun h=>aj ?_) (fun h=>G0 (fun h'=>aj ?_) (fun h'=>?_))))
 ·simp only [nrm,xdn,reduceIte,Nat.reduceLT,Nat.reduceSub,Nat.reduceAdd,cX,hm] at h
  rw [if_pos (.inl h)]
  simp only [nrm,xdn,reduceIte,Nat.reduceLT,Nat.reduceSub,Nat.reduceAdd,Mem.cds];rfl
 ·simp only [nrm,xdn,reduceIte,Nat.reduceLT,Nat.reduceSub,Nat.reduceAdd,cX,hm] at h'
  rw [if_pos (.inr h')]
  simp only [nrm,xdn,reduceIte,Nat.reduceLT,Nat.reduceSub,Nat.reduceAdd,Mem.cds];rfl
 ·simp only [nrm,xdn,reduceIte,Nat.reduceLT,Nat.reduceSub,Nat.reduceAdd,cX,hm] at h h'
  rw [if_neg (by omega)]
  refine G1 (by simp only [nrm,xdn,reduceIte,Nat.reduceLT,Nat.reduceSub,Nat.reduceAdd,cX,hm];omega) (aj ?_)
  simp only [nrm,xdn,reduceIte,Nat.reduceLT,Nat.reduceSub,Nat.reduceAdd,cX,hm,vI,Mem.cds,lca]
  rw [show (m.slots.modify x.toNat fun s=>{ s with refs:=(msl m x.toNat).refs + 1})=m.slots.modify x.toNat (bx 1) from Hw (fun s=>{ s with refs:=(msl m x.toNat).refs + 1}) (bx 1) m.slots x.toNat rfl]
def s167 : Sig:=⟨[.ptr [.own 52 kS,.own 3 kI,.own 3 kI,.own 3 kI,.int .i64],.one (.int .i64)],[]⟩
def d167 : DC:=⟨s167,fun l=>0≤(l.getD 5 .u).int∧(l.getD 5 .u).int < (Mem.of l).slots.length∧0≤(msl (Mem.of l) (l.getD 5 .u).int.toNat).refs∧(msl (Mem.of l) (l.getD 5 .u).int.toNat).refs≤1000∧(Mem.of l).free.length≤1000,fun l=>(put (Mem.of l) (l.getD 5 .u).int).cds⟩
def l167 : List (Nat × Ct):=[]
def z167 : Cx:={ T:=ttA,C:=sigs l167,F:=[],hints:=[],sig:=s167}
def t167 : Tree :=
 (.need (.le (.int 0) (.var 5))
 (.need (.lt (.var 5) (.len (.var 0)))
 (.ite (.eq (.cell (.var 0) (.var 5) 0) (.int 0))
 (.ret [.var 0,.var 1,.var 2,.var 3,.var 4])
 (.need (.fit (.sub (.cell (.var 0) (.var 5) 0) (.int 1)))
 (.ite (.eq (.sub (.cell (.var 0) (.var 5) 0) (.int 1)) (.int 0))
 (.need (.le (.add (.len (.var 2)) (.int 1)) (.int 17592186044416))
 (.ret [.set (.var 0) (.var 5) 0 (.sub (.cell (.var 0) (.var 5) 0) (.int 1)),.var 1,.app (.var 2) (.cons (.var 5) .row0),.var 3,.var 4]))
 (.ret [.set (.var 0) (.var 5) 0 (.sub (.cell (.var 0) (.var 5) 0) (.int 1)),.var 1,.var 2,.var 3,.var 4]))))))
theorem run167 : run z167 6000 [.code (Try.f167.body.getD .skip),.fin (bt z167 Try.f167.results.toList 50)] { fn:=167,tmps:=z167.sig.aM ++ List.replicate (Try.f167.ntmps - z167.sig.aM.length) (.v (.one .undef)),stk:=[],h:=z167.sig.h0,nx:=z167.sig.ins.length,known:=[]}=t167:=by kernel_rfl
theorem ok167 : cB Try.prog 167 d167.ct:=by
 refine aD (d:=d167) (Z:=z167) (Γ:=gam l167) (fn:=Try.f167) (c:=Try.f167.body.getD .skip) (bg tok mixed all_nil bh) Try.func167 (by kernel_rfl) (by kernel_rfl) rfl run167 fun E hk hp=>?_
 obtain ⟨hk0,hk1,hk2,hk3,hk4,hk5,_⟩:=hk
 obtain ⟨m,e0,e1,e2,e3,e4,b0,b1,b2,b3⟩:=cv (d0:=E 0) (d1:=E 1) (d2:=E 2) (d3:=E 3) (d4:=E 4) hk0 hk1 hk2 hk3 hk4
 obtain ⟨x,e5⟩:=ok_int (d:=E 5) hk5
 have el : aH E d167.sig.ins.length=[au m.slots,af m.heads,af m.free,af m.locks,.i m.now,.i x]:=by
  show [E 0,E 1,E 2,E 3,E 4,E 5]=_
  rw [e0,e1,e2,e3,e4,e5]
 rw [el] at hp
 rw [el]
 rw [Env.bJ el]
 clear el e0 e1 e2 e3 e4 e5
 simp only [d167,mem_of,aA,List.getD_cons_zero,List.getD_cons_succ,CD.aR] at hp ⊢
 unfold put
 unfold t167
 have hm : m.slots.getD x.toNat default=msl m x.toNat:=rfl
 have hw : (m.slots.modify x.toNat fun s=>{ s with refs:=(msl m x.toNat).refs - 1})=m.slots.modify x.toNat (bx (-1)):=Hw (fun s=>{ s with refs:=(msl m x.toNat).refs - 1}) (bx (-1)) m.slots x.toNat rfl
 refine ag (by simp only [nrm,xdn,reduceIte,Nat.reduceLT,Nat.reduceSub,Nat.reduceAdd];omega) (ag (by simp only [nrm,xdn,reduceIte,Nat.reduceLT,Nat.reduceSub,Nat.reduceAdd,aN];omega) (G0 (fun h=>aj ?_) (fun h=>G1 (by simp only [nrm,xdn,reduceIte,Nat.reduceLT,Nat.reduceSub,Nat.reduceAdd,cX,hm];omega) (G0 (fun h'=>?_) (fun h'=>aj ?_)))))
 ·simp only [nrm,xdn,reduceIte,Nat.reduceLT,Nat.reduceSub,Nat.reduceAdd,cX,hm] at h
  rw [if_pos h]
  simp only [nrm,xdn,reduceIte,Nat.reduceLT,Nat.reduceSub,Nat.reduceAdd,Mem.cds]
 ·simp only [nrm,xdn,reduceIte,Nat.reduceLT,Nat.reduceSub,Nat.reduceAdd,cX,hm] at h h'
  rw [if_neg h,if_pos (by omega)]
  refine eh (by simp only [nrm,xdn,reduceIte,Nat.reduceLT,Nat.reduceSub,Nat.reduceAdd,aw];omega) (aj ?_)
  simp only [nrm,xdn,reduceIte,Nat.reduceLT,Nat.reduceSub,Nat.reduceAdd,cX,hm,vI,Mem.cds,CD.row,List.headD_cons,gV,hw]
 ·simp only [nrm,xdn,reduceIte,Nat.reduceLT,Nat.reduceSub,Nat.reduceAdd,cX,hm] at h h'
  rw [if_neg h,if_neg (by omega)]
  simp only [nrm,xdn,reduceIte,Nat.reduceLT,Nat.reduceSub,Nat.reduceAdd,cX,hm,vI,Mem.cds,hw]
end Go.Proofs.Ytpmamacjepcdmaa
