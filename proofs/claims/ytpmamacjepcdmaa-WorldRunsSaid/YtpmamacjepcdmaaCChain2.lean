import Derived.Test.YtpmamacjepcdmaaCRef3
namespace Go.Proofs.Ytpmamacjepcdmaa
open Go Go.Sy Go.RowKit
set_option linter.unusedSimpArgs false
set_option linter.unusedVariables false
theorem fb {Γ : Gam} {R : List CD→Prop} {E : Env} {J : JJ} {id id2 : Nat} {cur : List X} {Y Y2 : List CD→Prop} (hne : id≠id2) (h : Y (cur.map (X.den E))) : (Tree.back id cur).den Γ R E ((J.put id Y).put id2 Y2):=by
 show ((J.put id Y).put id2 Y2).b id _
 simp only [JJ.put,if_neg hne,if_true]
 exact h
def walk (m : Mem) : Nat→Int→Option (List Int × Int)
 | 0,_=>none
 | f + 1,n=>if n≤0 then some ([],n) else (walk m f (msl m (n - 1).toNat).next).map fun p=>((n - 1) :: p.1,p.2)
theorem l5 {m : Mem} {f : Nat} {n : Int} (h : n≤0) : walk m (f + 1) n=some ([],n):=by simp only [walk,if_pos h]
theorem l0 {m : Mem} {f : Nat} {n : Int} (h : ¬ n≤0) : walk m (f + 1) n=(walk m f (msl m (n - 1).toNat).next).map fun p=>((n - 1) :: p.1,p.2):=by simp only [walk,if_neg h]
def cQ (m : Mem) (b : Int) : Int:=m.heads.getD b.toNat 0
def walked (m : Mem) (b : Int) : Option (List Int × Int):=walk m (m.slots.length + 1) (cQ m b)
def cR (m : Mem) (b : Int) : Option (List Int):=match walked m b with
 | some p=>if p.2=-1 - b then some p.1 else none
 | none=>none
def cn (m : Mem) (b : Int) : List Int × Int:=match cR m b with
 | some l=>(l,0)
 | none=>([],4)
def dk (m : Mem) (b : Int) : List Int × Bool:=match walked m b with
 | some p=>(p.1,p.2 == -1 - b)
 | none=>([],false)
theorem uN (m : Mem) (b : Int) : cR m b=if (dk m b).2=true then some (dk m b).1 else none:=by
 unfold cR dk
 cases walked m b with
 | none=>rfl
 | some p=>simp only [beq_iff_eq]
theorem cm.nx {m : Mem} (h : cm m) (i : Nat) : (msl m i).next≤m.slots.length:=by
 rcases Nat.lt_or_ge i m.slots.length with hl | hg
 ·exact (h.sl hl).n0
 ·unfold msl
  rw [List.getD_eq_getElem?_getD,List.getElem?_eq_none hg]
  show (0 : Int)≤_
  omega
theorem cm.hd {m : Mem} (h : cm m) (b : Int) : cQ m b≤m.slots.length:=by
 unfold cQ
 rcases Nat.lt_or_ge b.toNat m.heads.length with hl | hg
 ·exact (h.head _ hl).n0
 ·rw [List.getD_eq_getElem?_getD,List.getElem?_eq_none hg]
  show (0 : Int)≤_
  omega
theorem rW {m : Mem} (hm : cm m) : ∀ (f : Nat) (n : Int) (l : List Int) (e : Int),n≤m.slots.length→walk m f n=some (l,e)→l.length < f∧∀ a∈l,0≤a∧a < m.slots.length
 | 0,_,_,_,_,h=>by cases h
 | f + 1,n,l,e,hn,h=>by
  by_cases h0 : n≤0
  ·rw [l5 h0] at h
   cases h
   exact ⟨by simp,fun _ h=>by cases h⟩
  ·rw [l0 h0] at h
   cases hw : walk m f (msl m (n - 1).toNat).next with
   | none=>rw [hw] at h;cases h
   | some p =>
    rw [hw] at h
    cases h
    obtain ⟨i1,i2⟩:=rW hm f _ p.1 p.2 (hm.nx _) hw
    refine ⟨by simp;omega,fun a ha=>?_⟩
    rcases List.mem_cons.1 ha with rfl | ha
    ·omega
    ·exact i2 a ha
theorem ke {m : Mem} {b : Int} {l : List Int} (h : cR m b=some l) : walked m b=some (l,-1 - b):=by
 unfold cR at h
 cases hw : walked m b with
 | none=>rw [hw] at h;cases h
 | some p =>
  rw [hw] at h
  dsimp only at h
  split at h
  ·rename_i he;cases h;rw [← he]
  ·cases h
theorem gX {m : Mem} (hm : cm m) {b : Int} {l : List Int} (h : cR m b=some l) : l.length≤m.slots.length∧∀ a∈l,0≤a∧a < m.slots.length:=by
 have:=rW hm _ _ l _ (hm.hd b) (ke h)
 exact ⟨by omega,this.2⟩
def cY (m : Mem) (b : Int) (ks : List Key) (a : Int) : Int :=
 if (msl m a.toNat).refs=0∨(msl m a.toNat).inn=false then 5 else if (bI (msl m a.toNat).k m.heads.length).1≠b then 4 else if (msl m a.toNat).k∈ks then 6 else 0
def cH (m : Mem) (b : Int) : List Int→List Key→Int × List Key
 | [],ks=>(0,ks)
 | a :: l,ks=>if cY m b ks a≠0 then (cY m b ks a,ks) else cH m b l ((msl m a.toNat).k :: ks)
def cL (m : Mem) : Nat→Nat→List Key→Int
 | 0,_,_=>0
 | n + 1,b,ks=>match cR m b with
  | none=>4
  | some l=>if (cH m b l ks).1≠0 then (cH m b l ks).1 else cL m n (b + 1) (cH m b l ks).2
def bF (m : Mem) : Int:=if bY m≠0 then bY m else cL m m.heads.length 0 []
theorem kc {m : Mem} {b : Int} {l : List Int} {ks : List Key} {i : Nat} (h : i < l.length) : cH m b (l.drop i) ks=if cY m b ks (l.getD i 0)≠0 then (cY m b ks (l.getD i 0),ks) else cH m b (l.drop (i + 1)) ((msl m (l.getD i 0).toNat).k :: ks):=by
 rw [cU h];rfl
theorem gK {m : Mem} {n b : Nat} {ks : List Key} {l : List Int} (h : cR m b=some l) : cL m (n + 1) b ks=if (cH m b l ks).1≠0 then (cH m b l ks).1 else cL m n (b + 1) (cH m b l ks).2:=by
 simp only [cL,h]
theorem gL {m : Mem} {n b : Nat} {ks : List Key} (h : cR m b=none) : cL m (n + 1) b ks=4:=by
 simp only [cL,h]
def u0 (L : List Key) : CD:=.l (L.map fun k=>[.i k.a,.i k.b,.b true])
theorem lK (a b : Int) : ∀ L : List Key,((CD.find (u0 L).rows [.i a,.i b] 2).getD []).getD 2 (.b false)=.b (decide ((⟨a,b⟩ : Key)∈L))
 | []=>rfl
 | x :: L=>by
  have ih:=lK a b L
  simp only [u0,CD.aA,CD.find,List.map_cons,List.find?_cons,List.take_succ_cons,List.take_zero,ib,CD.eqs,Bool.and_true] at ih ⊢
  cases h : ((x.a ==a) && (x.b ==b)) with
  | true =>
   simp only [Bool.and_eq_true,beq_iff_eq] at h
   have e : (⟨a,b⟩ : Key)=x:=by rw [← h.1,← h.2]
   simp [e]
  | false =>
   have hne : (⟨a,b⟩ : Key)≠x:=fun e=>by subst e;simp at h
   simp only [ih,List.mem_cons,hne,false_or]
def s168 : Sig:=⟨[.agg [.fz kS,.fz kI,.fz kI,.fz kI,.int .i64],.one (.int .i64)],[.one (.own 3 kI),.one (.int .i64)]⟩
def d168 : DC:=⟨s168,fun l=>cm (Mem.of l)∧0≤(l.getD 5 .u).int∧(l.getD 5 .u).int < (Mem.of l).heads.length,fun l=>[aa (cn (Mem.of l) (l.getD 5 .u).int).1,.i (cn (Mem.of l) (l.getD 5 .u).int).2]⟩
theorem fn168 (m : Mem) (b : Int) : d168.fn [aj m.slots,aa m.heads,aa m.free,aa m.locks,.i m.now,.i b]=[aa (cn m b).1,.i (cn m b).2]:=by simp only [d168,mem_of,aq,List.getD_cons_zero,List.getD_cons_succ,CD.aJ]
theorem pre168 {m : Mem} {b : Int} (h : cm m) (h1 : 0≤b) (h2 : b < m.heads.length) : d168.pre [aj m.slots,aa m.heads,aa m.free,aa m.locks,.i m.now,.i b]:=by
 simp only [d168,mem_of,aq,List.getD_cons_zero,List.getD_cons_succ,CD.aJ]
 exact ⟨h,h1,h2⟩
def l168 : List (Nat × Ct):=[]
def z168 : Cx:={ T:=ttA,C:=sigs l168,F:=[],hints:=[⟨168,3,false,[(7,.lt),(6,.own 3 kI)],[],[],[],0⟩],sig:=s168}
def t168 : Tree :=
 (.need (.le (.int 0) (.var 5))
 (.need (.lt (.var 5) (.len (.var 1)))
 (.loop 6 [.sl 8 [.int .i64],.int .i64] [.nil,.cell (.var 1) (.var 5) 0]
 (.ite (.lt (.int 0) (.var 8))
 (.ite (.eq (.len (.var 7)) (.len (.var 0)))
 (.ret [.nil,.int 4])
 (.need (.fit (.sub (.var 8) (.int 1)))
 (.need (.le (.add (.len (.var 7)) (.int 1)) (.int 17592186044416))
 (.need (.le (.int 0) (.sub (.var 8) (.int 1)))
 (.need (.lt (.sub (.var 8) (.int 1)) (.len (.var 0)))
 (.back 6 [.app (.var 7) (.cons (.sub (.var 8) (.int 1)) .row0),.cell (.var 0) (.sub (.var 8) (.int 1)) 5]))))))
 (.need (.fit (.sub (.int (-1)) (.var 5)))
 (.ite (.not (.eq (.var 8) (.sub (.int (-1)) (.var 5))))
 (.ret [.nil,.int 4])
 (.ret [.var 7,.int 0])))))))
theorem run168 : run z168 6000 [.code (Try.f168.body.getD .skip),.fin (aL z168 Try.f168.results.toList 50)] { fn:=168,tmps:=z168.sig.aC ++ List.replicate (Try.f168.ntmps - z168.sig.aC.length) (.v (.one .undef)),stk:=[],h:=z168.sig.h0,nx:=z168.sig.ins.length,known:=[]}=t168:=by kernel_rfl
theorem ok168 : bH Try.prog 168 d168.ct:=by
 refine aw (d:=d168) (Z:=z168) (Γ:=gam l168) (fn:=Try.f168) (c:=Try.f168.body.getD .skip) (aG tok mixed all_nil aH) Try.func168 (by kernel_rfl) (by kernel_rfl) rfl run168 fun E hk hp=>?_
 obtain ⟨hk0,hk1,hk2,hk3,hk4,hk5,_⟩:=hk
 obtain ⟨m,e0,e1,e2,e3,e4,b0,b1,b2,b3⟩:=bm (d0:=E 0) (d1:=E 1) (d2:=E 2) (d3:=E 3) (d4:=E 4) hk0 hk1 hk2 hk3 hk4
 obtain ⟨x,e5⟩:=ok_int (d:=E 5) hk5
 have el : aD E d168.sig.ins.length=[aj m.slots,aa m.heads,aa m.free,aa m.locks,.i m.now,.i x]:=by
  show [E 0,E 1,E 2,E 3,E 4,E 5]=_
  rw [e0,e1,e2,e3,e4,e5]
 rw [el] at hp
 rw [el]
 rw [Env.aS el]
 clear el e0 e1 e2 e3 e4 e5
 rw [fn168]
 simp only [d168,mem_of,aq,List.getD_cons_zero,List.getD_cons_succ,CD.aJ] at hp
 obtain ⟨hm,hx0,hx1⟩:=hp
 have hns:=hm.ns
 unfold t168
 refine ag (by simp only [nrm,xdn,reduceIte,Nat.reduceLT,Nat.reduceSub,Nat.reduceAdd];omega) (ag (by simp only [nrm,xdn,reduceIte,Nat.reduceLT,Nat.reduceSub,Nat.reduceAdd,ai];omega) ?_)
 refine bh (fun ds=>∃ (acc : List Int) (n : Int),ds=[aa acc,.i n]∧acc.length≤m.slots.length∧n≤m.slots.length∧walked m x=(walk m (m.slots.length - acc.length + 1) n).map fun p=>(acc ++ p.1,p.2)) (fun ds=>m.slots.length - (ds.getD 0 .u).rows.length)
  ⟨[],cQ m x,?_,by simp,hm.hd x,?_⟩ ?_
 ·simp only [nrm,xdn,reduceIte,Nat.reduceLT,Nat.reduceSub,Nat.reduceAdd,cJ (show x.toNat < m.heads.length by omega)];rfl
 ·simp only [List.length_nil,Nat.sub_zero,List.nil_append]
  show walk m _ _=_
  cases walk m (m.slots.length + 1) (cQ m x) <;> rfl
 rintro ds - ⟨acc,n,rfl,hl,hn,hw⟩
 refine ae (fun h=>ae (fun h'=>af ?_) (fun h'=>?_)) (fun h=>aE (by simp only [nrm,xdn,reduceIte,Nat.reduceLT,Nat.reduceSub,Nat.reduceAdd];omega) (ae (fun h'=>af ?_) (fun h'=>af ?_)))
 ·simp only [nrm,xdn,reduceIte,Nat.reduceLT,Nat.reduceSub,Nat.reduceAdd,ai,av] at h h'
  have e : m.slots.length - acc.length=0:=by omega
  rw [e,l0 (by omega)] at hw
  have : cn m x=([],4):=by unfold cn cR;rw [hw];rfl
  rw [this]
  simp only [nrm,xdn,reduceIte,Nat.reduceLT,Nat.reduceSub,Nat.reduceAdd];rfl
 ·simp only [nrm,xdn,reduceIte,Nat.reduceLT,Nat.reduceSub,Nat.reduceAdd,ai,av] at h h'
  refine aE (by simp only [nrm,xdn,reduceIte,Nat.reduceLT,Nat.reduceSub,Nat.reduceAdd];omega) (cr (by simp only [nrm,xdn,reduceIte,Nat.reduceLT,Nat.reduceSub,Nat.reduceAdd,ai];omega) (ag (by simp only [nrm,xdn,reduceIte,Nat.reduceLT,Nat.reduceSub,Nat.reduceAdd];omega) (ag (by simp only [nrm,xdn,reduceIte,Nat.reduceLT,Nat.reduceSub,Nat.reduceAdd,av];omega) (aW ⟨⟨acc ++ [n - 1],(msl m (n - 1).toNat).next,?_,by simp;omega,hm.nx _,?_⟩,?_⟩))))
  ·simp only [nrm,xdn,reduceIte,Nat.reduceLT,Nat.reduceSub,Nat.reduceAdd,CD.row,List.headD_cons,da,fC (show (n - 1).toNat < m.slots.length by omega)];rfl
  ·rw [hw,l0 (by omega),show m.slots.length - acc.length=m.slots.length - (acc ++ [n - 1]).length + 1 from by simp;omega]
   cases walk m (m.slots.length - (acc ++ [n - 1]).length + 1) (msl m (n - 1).toNat).next with
   | none=>rfl
   | some p=>simp
  ·simp only [nrm,xdn,reduceIte,Nat.reduceLT,Nat.reduceSub,Nat.reduceAdd,CD.row,List.headD_cons,da,ai,List.length_append];omega
 ·simp only [nrm,xdn,reduceIte,Nat.reduceLT,Nat.reduceSub,Nat.reduceAdd,Bool.not_eq_true'] at h h'
  rw [l5 (by omega)] at hw
  have : cn m x=([],4):=by
   unfold cn cR
   rw [hw]
   simp only [Option.map_some]
   rw [if_neg (by omega)]
  rw [this]
  simp only [nrm,xdn,reduceIte,Nat.reduceLT,Nat.reduceSub,Nat.reduceAdd];rfl
 ·simp only [nrm,xdn,reduceIte,Nat.reduceLT,Nat.reduceSub,Nat.reduceAdd,Bool.not_eq_false'] at h h'
  rw [l5 (by omega)] at hw
  have : cn m x=(acc,0):=by
   unfold cn cR
   rw [hw]
   simp only [Option.map_some,List.append_nil]
   rw [if_pos (by omega)]
  rw [this]
  simp only [nrm,xdn,reduceIte,Nat.reduceLT,Nat.reduceSub,Nat.reduceAdd]
def s77 : Sig:=⟨[.agg [.fz kS,.fz kI,.fz kI,.fz kI,.int .i64],.one (.int .i64)],[.one (.own 3 kI),.one (.bool)]⟩
def d77 : DC:=⟨s77,fun l=>cm (Mem.of l)∧0≤(l.getD 5 .u).int∧(l.getD 5 .u).int < (Mem.of l).heads.length,fun l=>[aa (dk (Mem.of l) (l.getD 5 .u).int).1,.b (dk (Mem.of l) (l.getD 5 .u).int).2]⟩
theorem fn77 (m : Mem) (b : Int) : d77.fn [aj m.slots,aa m.heads,aa m.free,aa m.locks,.i m.now,.i b]=[aa (dk m b).1,.b (dk m b).2]:=by simp only [d77,mem_of,aq,List.getD_cons_zero,List.getD_cons_succ,CD.aJ]
theorem pre77 {m : Mem} {b : Int} (h : cm m) (h1 : 0≤b) (h2 : b < m.heads.length) : d77.pre [aj m.slots,aa m.heads,aa m.free,aa m.locks,.i m.now,.i b]:=by
 simp only [d77,mem_of,aq,List.getD_cons_zero,List.getD_cons_succ,CD.aJ]
 exact ⟨h,h1,h2⟩
def l77 : List (Nat × Ct):=[]
def z77 : Cx:={ T:=ttA,C:=sigs l77,F:=[],hints:=[⟨77,4,false,[(17,.lt),(7,.lt),(6,.own 3 kI)],[],[],[],0⟩],sig:=s77}
def t77 : Tree :=
 (.need (.le (.int 0) (.var 5))
 (.need (.lt (.var 5) (.len (.var 1)))
 (.need (.fit (.add (.len (.var 0)) (.int 1)))
 (.loop 6 [.sl 8 [.int .i64],.int .i64,.int .i64] [.nil,.cell (.var 1) (.var 5) 0,.int 0]
 (.ite (.lt (.var 9) (.add (.len (.var 0)) (.int 1)))
 (.ite (.le (.var 8) (.int 0))
 (.need (.fit (.sub (.int 0) (.var 5)))
 (.need (.fit (.sub (.sub (.int 0) (.var 5)) (.int 1)))
 (.ret [.var 7,.eq (.var 8) (.sub (.sub (.int 0) (.var 5)) (.int 1))])))
 (.need (.fit (.sub (.var 8) (.int 1)))
 (.need (.le (.add (.len (.var 7)) (.int 1)) (.int 17592186044416))
 (.need (.le (.int 0) (.sub (.var 8) (.int 1)))
 (.need (.lt (.sub (.var 8) (.int 1)) (.len (.var 0)))
 (.need (.fit (.add (.var 9) (.int 1)))
 (.back 6 [.app (.var 7) (.cons (.sub (.var 8) (.int 1)) .row0),.cell (.var 0) (.sub (.var 8) (.int 1)) 5,.add (.var 9) (.int 1)])))))))
 (.ret [.nil,.bool false]))))))
theorem run77 : run z77 6000 [.code (Try.f77.body.getD .skip),.fin (aL z77 Try.f77.results.toList 50)] { fn:=77,tmps:=z77.sig.aC ++ List.replicate (Try.f77.ntmps - z77.sig.aC.length) (.v (.one .undef)),stk:=[],h:=z77.sig.h0,nx:=z77.sig.ins.length,known:=[]}=t77:=by kernel_rfl
theorem ok77 : bH Try.prog 77 d77.ct:=by
 refine aw (d:=d77) (Z:=z77) (Γ:=gam l77) (fn:=Try.f77) (c:=Try.f77.body.getD .skip) (aG tok mixed all_nil aH) Try.func77 (by kernel_rfl) (by kernel_rfl) rfl run77 fun E hk hp=>?_
 obtain ⟨hk0,hk1,hk2,hk3,hk4,hk5,_⟩:=hk
 obtain ⟨m,e0,e1,e2,e3,e4,b0,b1,b2,b3⟩:=bm (d0:=E 0) (d1:=E 1) (d2:=E 2) (d3:=E 3) (d4:=E 4) hk0 hk1 hk2 hk3 hk4
 obtain ⟨x,e5⟩:=ok_int (d:=E 5) hk5
 have el : aD E d77.sig.ins.length=[aj m.slots,aa m.heads,aa m.free,aa m.locks,.i m.now,.i x]:=by
  show [E 0,E 1,E 2,E 3,E 4,E 5]=_
  rw [e0,e1,e2,e3,e4,e5]
 rw [el] at hp
 rw [el]
 rw [Env.aS el]
 clear el e0 e1 e2 e3 e4 e5
 rw [fn77]
 simp only [d77,mem_of,aq,List.getD_cons_zero,List.getD_cons_succ,CD.aJ] at hp
 obtain ⟨hm,hx0,hx1⟩:=hp
 have hns:=hm.ns
 unfold t77
 refine ag (by simp only [nrm,xdn,reduceIte,Nat.reduceLT,Nat.reduceSub,Nat.reduceAdd];omega) (ag (by simp only [nrm,xdn,reduceIte,Nat.reduceLT,Nat.reduceSub,Nat.reduceAdd,ai];omega) (aE (by simp only [nrm,xdn,reduceIte,Nat.reduceLT,Nat.reduceSub,Nat.reduceAdd,av];omega) ?_))
 refine bh (fun ds=>∃ (acc : List Int) (n : Int),ds=[aa acc,.i n,.i acc.length]∧acc.length≤m.slots.length + 1∧n≤m.slots.length∧walked m x=(walk m (m.slots.length + 1 - acc.length) n).map fun p=>(acc ++ p.1,p.2)) (fun ds=>m.slots.length + 1 - (ds.getD 0 .u).rows.length)
  ⟨[],cQ m x,?_,by simp,hm.hd x,?_⟩ ?_
 ·simp only [nrm,xdn,reduceIte,Nat.reduceLT,Nat.reduceSub,Nat.reduceAdd,cJ (show x.toNat < m.heads.length by omega)];rfl
 ·simp only [List.length_nil,Nat.sub_zero,List.nil_append]
  show walk m _ _=_
  cases walk m (m.slots.length + 1) (cQ m x) <;> rfl
 rintro ds - ⟨acc,n,rfl,hl,hn,hw⟩
 refine ae (fun h=>ae (fun h'=>aE (by simp only [nrm,xdn,reduceIte,Nat.reduceLT,Nat.reduceSub,Nat.reduceAdd];omega) (aE (by simp only [nrm,xdn,reduceIte,Nat.reduceLT,Nat.reduceSub,Nat.reduceAdd];omega) (af ?_))) (fun h'=>?_)) (fun h=>af ?_)
 ·simp only [nrm,xdn,reduceIte,Nat.reduceLT,Nat.reduceSub,Nat.reduceAdd,ai,av] at h h'
  rw [show m.slots.length + 1 - acc.length=m.slots.length - acc.length + 1 from by omega,l5 (by omega)] at hw
  have : dk m x=(acc,n == -1 - x):=by
   unfold dk
   rw [hw]
   simp only [Option.map_some,List.append_nil]
  rw [this]
  simp only [nrm,xdn,reduceIte,Nat.reduceLT,Nat.reduceSub,Nat.reduceAdd]
  rw [show (0 : Int) - x - 1=-1 - x from by omega]
 ·simp only [nrm,xdn,reduceIte,Nat.reduceLT,Nat.reduceSub,Nat.reduceAdd,ai,av] at h h'
  refine aE (by simp only [nrm,xdn,reduceIte,Nat.reduceLT,Nat.reduceSub,Nat.reduceAdd];omega) (cr (by simp only [nrm,xdn,reduceIte,Nat.reduceLT,Nat.reduceSub,Nat.reduceAdd,ai];omega) (ag (by simp only [nrm,xdn,reduceIte,Nat.reduceLT,Nat.reduceSub,Nat.reduceAdd];omega) (ag (by simp only [nrm,xdn,reduceIte,Nat.reduceLT,Nat.reduceSub,Nat.reduceAdd,av];omega) (aE (by simp only [nrm,xdn,reduceIte,Nat.reduceLT,Nat.reduceSub,Nat.reduceAdd];omega) (aW ⟨⟨acc ++ [n - 1],(msl m (n - 1).toNat).next,?_,by simp;omega,hm.nx _,?_⟩,?_⟩)))))
  ·simp only [nrm,xdn,reduceIte,Nat.reduceLT,Nat.reduceSub,Nat.reduceAdd,CD.row,List.headD_cons,da,fC (show (n - 1).toNat < m.slots.length by omega),List.length_append,Int.natCast_add];rfl
  ·rw [hw,show m.slots.length + 1 - acc.length=m.slots.length + 1 - (acc ++ [n - 1]).length + 1 from by simp;omega,l0 (by omega)]
   cases walk m (m.slots.length + 1 - (acc ++ [n - 1]).length) (msl m (n - 1).toNat).next with
   | none=>rfl
   | some p=>simp
  ·simp only [nrm,xdn,reduceIte,Nat.reduceLT,Nat.reduceSub,Nat.reduceAdd,CD.row,List.headD_cons,da,ai,List.length_append];omega
 ·simp only [nrm,xdn,reduceIte,Nat.reduceLT,Nat.reduceSub,Nat.reduceAdd,ai,av] at h
  rw [show m.slots.length + 1 - acc.length=0 from by omega] at hw
  have : dk m x=([],false):=by unfold dk;rw [hw];rfl
  rw [this]
  simp only [nrm,xdn,reduceIte,Nat.reduceLT,Nat.reduceSub,Nat.reduceAdd];rfl
end Go.Proofs.Ytpmamacjepcdmaa

namespace Go.Proofs.Ytpmamacjepcdmaa
open Go Go.Sy Go.RowKit
set_option linter.unusedSimpArgs false
set_option linter.unusedVariables false
theorem fn97 (k : Key) (n : Int) : d97.fn [.i k.a,.i k.b,.i n]=[.i (bI k n).1,.i (bI k n).2]:=by
 simp only [d97,ig,cZ,List.getD_cons_succ,List.getD_cons_zero,CD.aJ]
def s74 : Sig:=⟨[.agg [.fz kS,.fz kI,.fz kI,.fz kI,.int .i64]],[.one (.int .i64)]⟩
def d74 : DC:=⟨s74,fun _=>True,fun l=>[.i (bF (Mem.of l))]⟩
theorem fn74 (m : Mem) : d74.fn [aj m.slots,aa m.heads,aa m.free,aa m.locks,.i m.now]=[.i (bF m)]:=by simp only [d74,mem_of,aq]
def l74 : List (Nat × Ct):=[(51,d51.ct),(168,d168.ct),(97,d97.ct)]
def z74 : Cx:={ T:=ttA,C:=sigs l74,F:=[],hints:=[⟨74,6,false,[(22,.lt)],[],[],[0],0⟩,⟨74,12,false,[(36,.lt)],[],[],[0],0⟩],sig:=s74}
def t74 : Tree :=
 (.call 51 [.var 0,.var 1,.var 2,.var 3,.var 4] 5
 (.ite (.not (.eq (.var 5) (.int 0)))
 (.ret [.var 5])
 (.loop 6 [.int .i64,.sl 0 [.int .i64,.int .i64,.bool]] [.int 0,.nil]
 (.ite (.lt (.var 7) (.len (.var 1)))
 (.call 168 [.var 0,.var 1,.var 2,.var 3,.var 4,.var 7] 9
 (.ite (.not (.eq (.var 10) (.int 0)))
 (.ret [.var 10])
 (.loop 11 [.int .i64,.sl 0 [.int .i64,.int .i64,.bool]] [.int 0,.var 8]
 (.ite (.lt (.var 12) (.len (.var 9)))
 (.need (.le (.int 0) (.var 12))
 (.need (.le (.int 0) (.cell (.var 9) (.var 12) 0))
 (.need (.lt (.cell (.var 9) (.var 12) 0) (.len (.var 0)))
 (.ite (.eq (.cell (.var 0) (.cell (.var 9) (.var 12) 0) 0) (.int 0))
 (.ret [.int 5])
 (.ite (.not (.cell (.var 0) (.cell (.var 9) (.var 12) 0) 4))
 (.ret [.int 5])
 (.call 97 [.cell (.var 0) (.cell (.var 9) (.var 12) 0) 1,.cell (.var 0) (.cell (.var 9) (.var 12) 0) 2,.len (.var 1)] 14
 (.ite (.not (.eq (.var 14) (.var 7)))
 (.ret [.int 4])
 (.ite (.look (.var 13) (.cons (.cell (.var 0) (.cell (.var 9) (.var 12) 0) 1) (.cons (.cell (.var 0) (.cell (.var 9) (.var 12) 0) 2) .row0)) (.bool false) 2 2)
 (.ret [.int 6])
 (.need (.fit (.add (.var 12) (.int 1)))
 (.back 11 [.add (.var 12) (.int 1),.app (.cons (.cell (.var 0) (.cell (.var 9) (.var 12) 0) 1) (.cons (.cell (.var 0) (.cell (.var 9) (.var 12) 0) 2) (.cons (.bool true) .row0))) (.var 13)]))))))))))
 (.need (.fit (.add (.var 7) (.int 1)))
 (.back 6 [.add (.var 7) (.int 1),.var 13]))))))
 (.ret [.int 0])))))
theorem run74 : run z74 6000 [.code (Try.f74.body.getD .skip),.fin (aL z74 Try.f74.results.toList 50)] { fn:=74,tmps:=z74.sig.aC ++ List.replicate (Try.f74.ntmps - z74.sig.aC.length) (.v (.one .undef)),stk:=[],h:=z74.sig.h0,nx:=z74.sig.ins.length,known:=[]}=t74:=by kernel_rfl
theorem ok74 : bH Try.prog 74 d74.ct:=by
 refine aw (d:=d74) (Z:=z74) (Γ:=gam l74) (fn:=Try.f74) (c:=Try.f74.body.getD .skip) (aG tok mixed (all_cons ok51 (all_cons ok168 (all_cons ok97 all_nil))) aH) Try.func74 (by kernel_rfl) (by kernel_rfl) rfl run74 fun E hk hp=>?_
 obtain ⟨hk0,hk1,hk2,hk3,hk4,_⟩:=hk
 obtain ⟨m,e0,e1,e2,e3,e4,b0,b1,b2,b3⟩:=bm (d0:=E 0) (d1:=E 1) (d2:=E 2) (d3:=E 3) (d4:=E 4) hk0 hk1 hk2 hk3 hk4
 have el : aD E d74.sig.ins.length=[aj m.slots,aa m.heads,aa m.free,aa m.locks,.i m.now]:=by
  show [E 0,E 1,E 2,E 3,E 4]=_
  rw [e0,e1,e2,e3,e4]
 rw [el] at hp
 rw [el]
 rw [Env.aS el]
 clear el e0 e1 e2 e3 e4
 rw [fn74]
 unfold bF
 unfold t74
 refine ah d51 [.i (bY m)] rfl trivial (by simp only [nrm,xdn,reduceIte,Nat.reduceLT,Nat.reduceSub,Nat.reduceAdd,d51,mem_of,aq]) (ae (fun h=>af ?_) (fun h=>?_))
 ·simp only [nrm,xdn,reduceIte,Nat.reduceLT,Nat.reduceSub,Nat.reduceAdd,Bool.not_eq_true'] at h ⊢
  rw [if_pos h]
 simp only [nrm,xdn,reduceIte,Nat.reduceLT,Nat.reduceSub,Nat.reduceAdd,Bool.not_eq_false'] at h
 rw [if_neg (by omega)]
 have hm:=(ft m).1 h
 have hns:=hm.ns
 have hnh:=hm.nh4
 have hnh1:=hm.nh1
 refine bh (fun ds=>∃ (b : Nat) (ks : List Key),ds=[.i b,u0 ks]∧b≤m.heads.length∧cL m m.heads.length 0 []=cL m (m.heads.length - b) b ks) (fun ds=>m.heads.length - (ds.getD 0 .u).int.toNat) ⟨0,[],rfl,by omega,rfl⟩ ?_
 rintro ds - ⟨b,ks,rfl,hb,ht⟩
 refine ae (fun hlt=>?_) (fun hge=>af ?_)
 ·simp only [nrm,xdn,reduceIte,Nat.reduceLT,Nat.reduceSub,Nat.reduceAdd,ai] at hlt
  have e1 : m.heads.length - b=m.heads.length - (b + 1) + 1:=by omega
  rw [e1] at ht
  refine ah d168 [aa (cn m b).1,.i (cn m b).2] rfl ?_ (by simp only [nrm,xdn,reduceIte,Nat.reduceLT,Nat.reduceSub,Nat.reduceAdd,fn168]) ?_
  ·simp only [nrm,xdn,reduceIte,Nat.reduceLT,Nat.reduceSub,Nat.reduceAdd]
   exact pre168 hm (by omega) (by omega)
  cases hc : cR m b with
  | none =>
   have hr : cn m b=([],4):=by unfold cn;rw [hc]
   rw [hr]
   refine rL (by simp only [nrm,xdn,reduceIte,Nat.reduceLT,Nat.reduceSub,Nat.reduceAdd,Bool.not_eq_true'];decide) (af ?_)
   simp only [nrm,xdn,reduceIte,Nat.reduceLT,Nat.reduceSub,Nat.reduceAdd]
   rw [ht,gL hc]
  | some l =>
   have hr : cn m b=(l,0):=by unfold cn;rw [hc]
   rw [hr]
   refine vG (by simp only [nrm,xdn,reduceIte,Nat.reduceLT,Nat.reduceSub,Nat.reduceAdd,decide_true,Bool.not_true,beq_self_eq_true]) ?_
   obtain ⟨hl,hlm⟩:=gX hm hc
   rw [gK hc] at ht
   refine bh (fun ds=>∃ (j : Nat) (ks' : List Key),ds=[.i j,u0 ks']∧j≤l.length∧cH m b l ks=cH m b (l.drop j) ks') (fun ds=>l.length - (ds.getD 0 .u).int.toNat) ⟨0,ks,?_,by omega,rfl⟩ ?_
   ·simp only [nrm,xdn,reduceIte,Nat.reduceLT,Nat.reduceSub,Nat.reduceAdd];rfl
   rintro ds - ⟨j,ks',rfl,hj,hs⟩
   refine ae (fun hlt'=>?_) (fun hge'=>?_)
   ·simp only [nrm,xdn,reduceIte,Nat.reduceLT,Nat.reduceSub,Nat.reduceAdd,ai] at hlt'
    have ha:=hlm (l.getD j 0) (iK (by omega))
    rw [kc (by omega)] at hs
    have bad : ∀ e : Int,e≠0→cY m b ks' (l.getD j 0)=e→[CD.i e]=[CD.i (cL m m.heads.length 0 [])]:=fun e he hx=>by
     rw [hx,if_pos he] at hs
     rw [ht,hs,if_pos he]
    generalize hag : l.getD j 0=a at *
    have hk1 : ((aj m.slots).rows.getD a.toNat []).getD 1 .u=.i (msl m a.toNat).k.a:=fE (by omega)
    have hk2 : ((aj m.slots).rows.getD a.toNat []).getD 2 .u=.i (msl m a.toNat).k.b:=fD (by omega)
    have hm0 : m.slots.getD a.toNat default=msl m a.toNat:=rfl
    refine ag (by simp only [nrm,xdn,reduceIte,Nat.reduceLT,Nat.reduceSub,Nat.reduceAdd];omega) (ag (by simp only [nrm,xdn,reduceIte,Nat.reduceLT,Nat.reduceSub,Nat.reduceAdd,Int.toNat_natCast,ar,hag];omega) (ag (by simp only [nrm,xdn,reduceIte,Nat.reduceLT,Nat.reduceSub,Nat.reduceAdd,Int.toNat_natCast,ar,hag,av];omega) (ae (fun c1=>af ?_) (fun c1=>ae (fun c2=>af ?_) (fun c2=>?_)))))
    ·simp only [nrm,xdn,reduceIte,Nat.reduceLT,Nat.reduceSub,Nat.reduceAdd,Int.toNat_natCast,ar,hag,bs,hm0] at c1 ⊢
     exact bad 5 (by decide) (by unfold cY;rw [if_pos (.inl c1)])
    ·simp only [nrm,xdn,reduceIte,Nat.reduceLT,Nat.reduceSub,Nat.reduceAdd,Int.toNat_natCast,ar,hag,aZ,hm0,Bool.not_eq_true'] at c2 ⊢
     exact bad 5 (by decide) (by unfold cY;rw [if_pos (.inr c2)])
    simp only [nrm,xdn,reduceIte,Nat.reduceLT,Nat.reduceSub,Nat.reduceAdd,Int.toNat_natCast,ar,hag,bs,aZ,hm0,Bool.not_eq_false'] at c1 c2
    have hno : ¬ ((msl m a.toNat).refs=0∨(msl m a.toNat).inn=false):=by
     rintro (h | h)
     ·exact c1 h
     ·rw [h] at c2;cases c2
    refine ah d97 [.i (bI (msl m a.toNat).k m.heads.length).1,.i (bI (msl m a.toNat).k m.heads.length).2] rfl trivial (by simp only [nrm,xdn,reduceIte,Nat.reduceLT,Nat.reduceSub,Nat.reduceAdd,Int.toNat_natCast,ar,hag,hk1,hk2,ai,fn97]) (ae (fun c3=>af ?_) (fun c3=>ae (fun c4=>af ?_) (fun c4=>?_)))
    ·simp only [nrm,xdn,reduceIte,Nat.reduceLT,Nat.reduceSub,Nat.reduceAdd,Int.toNat_natCast,Bool.not_eq_true'] at c3 ⊢
     exact bad 4 (by decide) (by unfold cY;rw [if_neg hno,if_pos c3])
    ·simp only [nrm,xdn,reduceIte,Nat.reduceLT,Nat.reduceSub,Nat.reduceAdd,Int.toNat_natCast,ar,hag,hk1,hk2,CD.row,List.headD_cons,lK,cZ,Bool.not_eq_false'] at c3 c4 ⊢
     exact bad 6 (by decide) (by unfold cY;rw [if_neg hno,if_neg (by omega),if_pos c4])
    simp only [nrm,xdn,reduceIte,Nat.reduceLT,Nat.reduceSub,Nat.reduceAdd,Int.toNat_natCast,ar,hag,hk1,hk2,CD.row,List.headD_cons,lK,cZ,Bool.not_eq_false'] at c3 c4
    have hlk : cY m b ks' a=0:=by unfold cY;rw [if_neg hno,if_neg (by omega),if_neg c4]
    rw [if_neg (by omega)] at hs
    refine aE (by simp only [nrm,xdn,reduceIte,Nat.reduceLT,Nat.reduceSub,Nat.reduceAdd];omega) (aW ⟨⟨j + 1,(msl m a.toNat).k :: ks',?_,by omega,hs⟩,?_⟩)
    ·simp only [nrm,xdn,reduceIte,Nat.reduceLT,Nat.reduceSub,Nat.reduceAdd,Int.toNat_natCast,ar,hag,hk1,hk2,CD.row,List.headD_cons]
     rfl
    ·simp only [nrm,xdn,reduceIte,Nat.reduceLT,Nat.reduceSub,Nat.reduceAdd];omega
   ·simp only [nrm,xdn,reduceIte,Nat.reduceLT,Nat.reduceSub,Nat.reduceAdd,ai] at hge'
    have hs' : cH m b l ks=(0,ks'):=by rw [hs,List.drop_of_length_le (by omega)];rfl
    rw [hs'] at ht
    refine aE (by simp only [nrm,xdn,reduceIte,Nat.reduceLT,Nat.reduceSub,Nat.reduceAdd];omega) (fb (by decide) ⟨⟨b + 1,ks',?_,by omega,?_⟩,?_⟩)
    ·simp only [nrm,xdn,reduceIte,Nat.reduceLT,Nat.reduceSub,Nat.reduceAdd];rfl
    ·rw [ht];rfl
    ·simp only [nrm,xdn,reduceIte,Nat.reduceLT,Nat.reduceSub,Nat.reduceAdd];omega
 ·simp only [nrm,xdn,reduceIte,Nat.reduceLT,Nat.reduceSub,Nat.reduceAdd,ai] at hge
  rw [ht,show m.heads.length - b=0 from by omega]
  rfl
def slotsOf (m : Mem) (b : Int) : List Int × Int:=if bY m≠0 then ([],bY m) else if b < 0∨m.heads.length≤b then ([],5) else cn m b
def s72 : Sig:=⟨[.agg [.fz kS,.fz kI,.fz kI,.fz kI,.int .i64]],[.one (.int .i64)]⟩
def d72 : DC:=⟨s72,fun _=>True,fun l=>[.i (bF (Mem.of l))]⟩
theorem fn72 (m : Mem) : d72.fn [aj m.slots,aa m.heads,aa m.free,aa m.locks,.i m.now]=[.i (bF m)]:=by simp only [d72,mem_of,aq]
def l72 : List (Nat × Ct):=[(58,d58.ct),(77,d77.ct),(88,d88.ct),(169,d169.ct)]
def z72 : Cx:={ T:=ttA,C:=sigs l72,F:=[],hints:=[⟨72,6,false,[(19,.lt),(4,.own 31 kK)],[],[],[],0⟩,⟨72,12,false,[(32,.lt),(4,.own 31 kK)],[],[],[],0⟩],sig:=s72}
def t72 : Tree :=
 (.call 58 [.var 0,.var 1,.var 2,.var 3,.var 4] 5
 (.ite (.not (.eq (.var 5) (.int 0)))
 (.ret [.var 5])
 (.loop 6 [.sl 16 [.int .i64,.int .i64],.int .i64] [.nil,.int 0]
 (.ite (.lt (.var 8) (.len (.var 1)))
 (.call 77 [.var 0,.var 1,.var 2,.var 3,.var 4,.var 8] 9
 (.ite (.not (.var 10))
 (.ret [.int 4])
 (.loop 11 [.sl 16 [.int .i64,.int .i64],.int .i64] [.var 7,.int 0]
 (.ite (.lt (.var 13) (.len (.var 9)))
 (.need (.le (.int 0) (.var 13))
 (.need (.le (.int 0) (.cell (.var 9) (.var 13) 0))
 (.need (.lt (.cell (.var 9) (.var 13) 0) (.len (.var 0)))
 (.ite (.eq (.cell (.var 0) (.cell (.var 9) (.var 13) 0) 0) (.int 0))
 (.ret [.int 5])
 (.ite (.not (.cell (.var 0) (.cell (.var 9) (.var 13) 0) 4))
 (.ret [.int 5])
 (.call 88 [.cell (.var 0) (.cell (.var 9) (.var 13) 0) 1,.cell (.var 0) (.cell (.var 9) (.var 13) 0) 2,.len (.var 1)] 14
 (.ite (.not (.eq (.var 14) (.var 8)))
 (.ret [.int 4])
 (.call 169 [.var 12,.cell (.var 0) (.cell (.var 9) (.var 13) 0) 1,.cell (.var 0) (.cell (.var 9) (.var 13) 0) 2] 15
 (.ite (.var 15)
 (.ret [.int 6])
 (.need (.le (.add (.len (.var 12)) (.int 1)) (.int 8796093022208))
 (.need (.fit (.add (.var 13) (.int 1)))
 (.back 11 [.app (.var 12) (.cons (.cell (.var 0) (.cell (.var 9) (.var 13) 0) 1) (.cons (.cell (.var 0) (.cell (.var 9) (.var 13) 0) 2) .row0)),.add (.var 13) (.int 1)]))))))))))))
 (.need (.fit (.add (.var 8) (.int 1)))
 (.back 6 [.var 12,.add (.var 8) (.int 1)]))))))
 (.ret [.int 0])))))
theorem run72 : run z72 6000 [.code (Try.f72.body.getD .skip),.fin (aL z72 Try.f72.results.toList 50)] { fn:=72,tmps:=z72.sig.aC ++ List.replicate (Try.f72.ntmps - z72.sig.aC.length) (.v (.one .undef)),stk:=[],h:=z72.sig.h0,nx:=z72.sig.ins.length,known:=[]}=t72:=by kernel_rfl
theorem ok72 : bH Try.prog 72 d72.ct:=by
 refine aw (d:=d72) (Z:=z72) (Γ:=gam l72) (fn:=Try.f72) (c:=Try.f72.body.getD .skip) (aG tok mixed (all_cons ok58 (all_cons ok77 (all_cons ok88 (all_cons ok169 all_nil)))) aH) Try.func72 (by kernel_rfl) (by kernel_rfl) rfl run72 fun E hk hp=>?_
 obtain ⟨hk0,hk1,hk2,hk3,hk4,_⟩:=hk
 obtain ⟨m,e0,e1,e2,e3,e4,b0,b1,b2,b3⟩:=bm (d0:=E 0) (d1:=E 1) (d2:=E 2) (d3:=E 3) (d4:=E 4) hk0 hk1 hk2 hk3 hk4
 have el : aD E d72.sig.ins.length=[aj m.slots,aa m.heads,aa m.free,aa m.locks,.i m.now]:=by
  show [E 0,E 1,E 2,E 3,E 4]=_
  rw [e0,e1,e2,e3,e4]
 rw [el] at hp
 rw [el]
 rw [Env.aS el]
 clear el e0 e1 e2 e3 e4
 rw [fn72]
 unfold bF
 unfold t72
 refine ah d58 [.i (bY m)] rfl trivial (by simp only [nrm,xdn,reduceIte,Nat.reduceLT,Nat.reduceSub,Nat.reduceAdd,fn58]) (ae (fun h=>af ?_) (fun h=>?_))
 ·simp only [nrm,xdn,reduceIte,Nat.reduceLT,Nat.reduceSub,Nat.reduceAdd,Bool.not_eq_true'] at h ⊢
  rw [if_pos h]
 simp only [nrm,xdn,reduceIte,Nat.reduceLT,Nat.reduceSub,Nat.reduceAdd,Bool.not_eq_false'] at h
 rw [if_neg (by omega)]
 have hm:=(ft m).1 h
 have hns:=hm.ns
 have hnh:=hm.nh4
 have hnh1:=hm.nh1
 refine bh (fun ds=>∃ (b : Nat) (ks : List Key),ds=[aT ks.reverse,.i b]∧b≤m.heads.length∧ks.length≤b * 12∧cL m m.heads.length 0 []=cL m (m.heads.length - b) b ks) (fun ds=>m.heads.length - (ds.getD 1 .u).int.toNat) ⟨0,[],rfl,by omega,by simp,rfl⟩ ?_
 rintro ds - ⟨b,ks,rfl,hb,hkl,ht⟩
 refine ae (fun hlt=>?_) (fun hge=>af ?_)
 ·simp only [nrm,xdn,reduceIte,Nat.reduceLT,Nat.reduceSub,Nat.reduceAdd,ai] at hlt
  have e1 : m.heads.length - b=m.heads.length - (b + 1) + 1:=by omega
  rw [e1] at ht
  refine ah d77 [aa (dk m b).1,.b (dk m b).2] rfl ?_ (by simp only [nrm,xdn,reduceIte,Nat.reduceLT,Nat.reduceSub,Nat.reduceAdd,fn77]) ?_
  ·simp only [nrm,xdn,reduceIte,Nat.reduceLT,Nat.reduceSub,Nat.reduceAdd]
   exact pre77 hm (by omega) (by omega)
  have hq:=uN m b
  cases hc : (dk m b).2 with
  | false =>
   rw [hc] at hq
   refine rL (by simp only [nrm,xdn,reduceIte,Nat.reduceLT,Nat.reduceSub,Nat.reduceAdd,Bool.not_false]) (af ?_)
   simp only [nrm,xdn,reduceIte,Nat.reduceLT,Nat.reduceSub,Nat.reduceAdd]
   rw [ht,gL hq]
  | true =>
   rw [hc,if_pos rfl] at hq
   refine vG (by simp only [nrm,xdn,reduceIte,Nat.reduceLT,Nat.reduceSub,Nat.reduceAdd,Bool.not_true]) ?_
   generalize (dk m b).1=l at *
   obtain ⟨hl,hlm⟩:=gX hm hq
   rw [gK hq] at ht
   refine bh (fun ds=>∃ (j : Nat) (ks' : List Key),ds=[aT ks'.reverse,.i j]∧j≤l.length∧ks'.length=ks.length + j∧cH m b l ks=cH m b (l.drop j) ks') (fun ds=>l.length - (ds.getD 1 .u).int.toNat) ⟨0,ks,?_,by omega,rfl,rfl⟩ ?_
   ·simp only [nrm,xdn,reduceIte,Nat.reduceLT,Nat.reduceSub,Nat.reduceAdd];rfl
   rintro ds - ⟨j,ks',rfl,hj,hkl',hs⟩
   refine ae (fun hlt'=>?_) (fun hge'=>?_)
   ·simp only [nrm,xdn,reduceIte,Nat.reduceLT,Nat.reduceSub,Nat.reduceAdd,ai] at hlt'
    have ha:=hlm (l.getD j 0) (iK (by omega))
    rw [kc (by omega)] at hs
    have bad : ∀ e : Int,e≠0→cY m b ks' (l.getD j 0)=e→[CD.i e]=[CD.i (cL m m.heads.length 0 [])]:=fun e he hx=>by
     rw [hx,if_pos he] at hs
     rw [ht,hs,if_pos he]
    generalize hag : l.getD j 0=a at *
    have hk1 : ((aj m.slots).rows.getD a.toNat []).getD 1 .u=.i (msl m a.toNat).k.a:=fE (by omega)
    have hk2 : ((aj m.slots).rows.getD a.toNat []).getD 2 .u=.i (msl m a.toNat).k.b:=fD (by omega)
    have hm0 : m.slots.getD a.toNat default=msl m a.toNat:=rfl
    have hok:=(hm.sl (i:=a.toNat) (by omega)).k
    refine ag (by simp only [nrm,xdn,reduceIte,Nat.reduceLT,Nat.reduceSub,Nat.reduceAdd];omega) (ag (by simp only [nrm,xdn,reduceIte,Nat.reduceLT,Nat.reduceSub,Nat.reduceAdd,Int.toNat_natCast,ar,hag];omega) (ag (by simp only [nrm,xdn,reduceIte,Nat.reduceLT,Nat.reduceSub,Nat.reduceAdd,Int.toNat_natCast,ar,hag,av];omega) (ae (fun c1=>af ?_) (fun c1=>ae (fun c2=>af ?_) (fun c2=>?_)))))
    ·simp only [nrm,xdn,reduceIte,Nat.reduceLT,Nat.reduceSub,Nat.reduceAdd,Int.toNat_natCast,ar,hag,bs,hm0] at c1 ⊢
     exact bad 5 (by decide) (by unfold cY;rw [if_pos (.inl c1)])
    ·simp only [nrm,xdn,reduceIte,Nat.reduceLT,Nat.reduceSub,Nat.reduceAdd,Int.toNat_natCast,ar,hag,aZ,hm0,Bool.not_eq_true'] at c2 ⊢
     exact bad 5 (by decide) (by unfold cY;rw [if_pos (.inr c2)])
    simp only [nrm,xdn,reduceIte,Nat.reduceLT,Nat.reduceSub,Nat.reduceAdd,Int.toNat_natCast,ar,hag,bs,aZ,hm0,Bool.not_eq_false'] at c1 c2
    have hno : ¬ ((msl m a.toNat).refs=0∨(msl m a.toNat).inn=false):=by
     rintro (h | h)
     ·exact c1 h
     ·rw [h] at c2;cases c2
    refine ah d88 [.i (bI (msl m a.toNat).k m.heads.length).1] rfl ?_ (by simp only [nrm,xdn,reduceIte,Nat.reduceLT,Nat.reduceSub,Nat.reduceAdd,Int.toNat_natCast,ar,hag,hk1,hk2,ai,fn88]) (ae (fun c3=>af ?_) (fun c3=>?_))
    ·simp only [nrm,xdn,reduceIte,Nat.reduceLT,Nat.reduceSub,Nat.reduceAdd,Int.toNat_natCast,ar,hag,hk1,hk2,ai]
     have hh : d88.pre [.i (msl m a.toNat).k.a,.i (msl m a.toNat).k.b,.i m.heads.length]:=⟨hok,(by show (1 : Int)≤(m.heads.length : Int);omega),(by show (m.heads.length : Int)≤4;omega)⟩
     exact hh
    ·simp only [nrm,xdn,reduceIte,Nat.reduceLT,Nat.reduceSub,Nat.reduceAdd,Int.toNat_natCast,Bool.not_eq_true'] at c3 ⊢
     exact bad 4 (by decide) (by unfold cY;rw [if_neg hno,if_pos c3])
    simp only [nrm,xdn,reduceIte,Nat.reduceLT,Nat.reduceSub,Nat.reduceAdd,Int.toNat_natCast,Bool.not_eq_false'] at c3
    have hmem : ((msl m a.toNat).k∈ks'.reverse)↔((msl m a.toNat).k∈ks'):=List.mem_reverse
    refine ah d169 [.b (decide ((msl m a.toNat).k∈ks'.reverse))] rfl trivial (by simp only [nrm,xdn,reduceIte,Nat.reduceLT,Nat.reduceSub,Nat.reduceAdd,Int.toNat_natCast,ar,hag,hk1,hk2,d169,cE,ig,cZ,List.drop_succ_cons,List.drop_zero]) (ae (fun c4=>af ?_) (fun c4=>?_))
    ·simp only [nrm,xdn,reduceIte,Nat.reduceLT,Nat.reduceSub,Nat.reduceAdd,hmem] at c4 ⊢
     exact bad 6 (by decide) (by unfold cY;rw [if_neg hno,if_neg (by omega),if_pos c4])
    simp only [nrm,xdn,reduceIte,Nat.reduceLT,Nat.reduceSub,Nat.reduceAdd,hmem] at c4
    have hlk : cY m b ks' a=0:=by unfold cY;rw [if_neg hno,if_neg (by omega),if_neg c4]
    rw [if_neg (by omega)] at hs
    refine cr (by simp only [nrm,xdn,reduceIte,Nat.reduceLT,Nat.reduceSub,Nat.reduceAdd,aK,List.length_reverse];omega) (aE (by simp only [nrm,xdn,reduceIte,Nat.reduceLT,Nat.reduceSub,Nat.reduceAdd];omega) (aW ⟨⟨j + 1,(msl m a.toNat).k :: ks',?_,by omega,by simp;omega,hs⟩,?_⟩))
    ·simp only [nrm,xdn,reduceIte,Nat.reduceLT,Nat.reduceSub,Nat.reduceAdd,Int.toNat_natCast,ar,hag,hk1,hk2,CD.row,List.headD_cons,bw,cZ,List.reverse_cons]
     rfl
    ·simp only [nrm,xdn,reduceIte,Nat.reduceLT,Nat.reduceSub,Nat.reduceAdd];omega
   ·simp only [nrm,xdn,reduceIte,Nat.reduceLT,Nat.reduceSub,Nat.reduceAdd,ai] at hge'
    have hs' : cH m b l ks=(0,ks'):=by rw [hs,List.drop_of_length_le (by omega)];rfl
    rw [hs'] at ht
    refine aE (by simp only [nrm,xdn,reduceIte,Nat.reduceLT,Nat.reduceSub,Nat.reduceAdd];omega) (fb (by decide) ⟨⟨b + 1,ks',?_,by omega,by omega,?_⟩,?_⟩)
    ·simp only [nrm,xdn,reduceIte,Nat.reduceLT,Nat.reduceSub,Nat.reduceAdd];rfl
    ·rw [ht];rfl
    ·simp only [nrm,xdn,reduceIte,Nat.reduceLT,Nat.reduceSub,Nat.reduceAdd];omega
 ·simp only [nrm,xdn,reduceIte,Nat.reduceLT,Nat.reduceSub,Nat.reduceAdd,ai] at hge
  rw [ht,show m.heads.length - b=0 from by omega]
  rfl
end Go.Proofs.Ytpmamacjepcdmaa
