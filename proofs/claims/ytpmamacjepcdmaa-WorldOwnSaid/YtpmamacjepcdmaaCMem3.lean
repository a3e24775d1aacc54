import Derived.Test.YtpmamacjepcdmaaCMem2
namespace Go.Proofs.Ytpmamacjepcdmaa
open Go Go.Sy Go.RowKit
set_option linter.unusedSimpArgs false
set_option linter.unusedVariables false
theorem pj {m : Mem} (h : m.free.length≠0) : bc m∈m.free:=pA (by omega)
theorem bB.last {m : Mem} (h : bB m) : m.free.length=0∨(0≤bc m∧bc m < m.slots.length):=by
 rcases Nat.eq_zero_or_pos m.free.length with h0 | h0
 ·exact .inl h0
 ·right
  have:=h.free _ (pj (m:=m) (by omega))
  exact ⟨this.1,this.2.1⟩
theorem pa {l : List Int} {n : Nat} (hd : l.Nodup) (h : ∀ a∈l,0≤a∧a < n) : l.length≤n:=by
 have h1 : (l.map Int.toNat).Nodup:=by
  refine List.pairwise_map.2 (List.Pairwise.imp_of_mem ?_ hd)
  intro a b ha hb hab e
  have:=h a ha
  have:=h b hb
  exact hab (by omega)
 have h2 : (l.map Int.toNat) ⊆ List.range n:=fun x hx=>by
  obtain ⟨a,ha,rfl⟩:=List.mem_map.1 hx
  have:=h a ha
  exact List.mem_range.2 (by omega)
 have:=h1.length_le_of_subset h2
 simpa using this
theorem bB.nf {m : Mem} (h : bB m) : m.free.length≤12:=by
 have h1:=pa h.nodup fun a ha=>⟨(h.free a ha).1,(h.free a ha).2.1⟩
 have:=h.ns
 omega
theorem bB.refs {m : Mem} (h : bB m) {a : Int} (h1 : 0≤a) (h2 : a < m.slots.length) : 0≤(msl m a.toNat).refs∧(msl m a.toNat).refs≤1000:=by
 have:=h.sl (i:=a.toNat) (by omega)
 exact ⟨this.r0,this.r1⟩
def s54 : Sig:=⟨[.agg [.fz kS,.fz kI,.fz kI,.fz kI,.int .i64],.agg [.int .i64,.int .i64],.one (.int .i64)],[.agg [.own 52 kS,.own 3 kI,.own 3 kI,.own 3 kI,.int .i64],.one (.int .i64),.one (.int .i64)]⟩
def d54 : DC:=⟨s54,fun _=>True,fun l=>(taken (Mem.of l) (Key.of (l.drop 5)) (l.getD 7 .u).int).1.cds ++ [.i (taken (Mem.of l) (Key.of (l.drop 5)) (l.getD 7 .u).int).2.1,.i (taken (Mem.of l) (Key.of (l.drop 5)) (l.getD 7 .u).int).2.2]⟩
theorem fn54 (m : Mem) (a b x : Int) : d54.fn [au m.slots,af m.heads,af m.free,af m.locks,.i m.now,.i a,.i b,.i x]=(taken m ⟨a,b⟩ x).1.cds ++ [.i (taken m ⟨a,b⟩ x).2.1,.i (taken m ⟨a,b⟩ x).2.2]:=by
 simp only [d54,mem_of,aA,List.drop_succ_cons,List.drop_zero,jK,List.getD_cons_zero,List.getD_cons_succ,CD.aR]
def l54 : List (Nat × Ct):=[(51,d51.ct),(52,d52.ct),(161,d161.ct),(162,d162.ct)]
def z54 : Cx:={ T:=ttA,C:=sigs l54,F:=[],hints:=[],sig:=s54}
def t54 : Tree :=
 (.call 51 [.var 0,.var 1,.var 2,.var 3,.var 4] 8
 (.ite (.not (.eq (.var 8) (.int 0)))
 (.ret [.nil,.nil,.nil,.nil,.int 0,.int 0,.var 8])
 (.call 52 [.var 5,.var 6] 9
 (.ite (.not (.eq (.var 9) (.int 0)))
 (.ret [.nil,.nil,.nil,.nil,.int 0,.int 0,.var 9])
 (.ite (.lt (.var 7) (.int 0))
 (.ret [.nil,.nil,.nil,.nil,.int 0,.int 0,.int 3])
 (.ite (.lt (.int 2000000) (.var 7))
 (.ret [.nil,.nil,.nil,.nil,.int 0,.int 0,.int 3])
 (.call 161 [.var 0,.var 1,.var 2,.var 3,.var 4] 10
 (.call 162 [.var 10,.var 11,.var 12,.var 13,.var 14,.var 5,.var 6,.var 7] 15
 (.ite (.not (.eq (.var 21) (.int 0)))
 (.ret [.nil,.nil,.nil,.nil,.int 0,.int 0,.var 21])
 (.ret [.var 15,.var 16,.var 17,.var 18,.var 19,.var 20,.int 0]))))))))))
theorem run54 : run z54 6000 [.code (Try.f54.body.getD .skip),.fin (bt z54 Try.f54.results.toList 50)] { fn:=54,tmps:=z54.sig.aM ++ List.replicate (Try.f54.ntmps - z54.sig.aM.length) (.v (.one .undef)),stk:=[],h:=z54.sig.h0,nx:=z54.sig.ins.length,known:=[]}=t54:=by kernel_rfl
theorem ok54 : cB Try.prog 54 d54.ct:=by
 refine aD (d:=d54) (Z:=z54) (Γ:=gam l54) (fn:=Try.f54) (c:=Try.f54.body.getD .skip) (bg tok mixed (all_cons ok51 (all_cons ok52 (all_cons ok161 (all_cons ok162 all_nil)))) bh) Try.func54 (by kernel_rfl) (by kernel_rfl) rfl run54 fun E hk hp=>?_
 obtain ⟨hk0,hk1,hk2,hk3,hk4,hk5,hk6,hk7,_⟩:=hk
 obtain ⟨m,e0,e1,e2,e3,e4,b0,b1,b2,b3⟩:=cv (d0:=E 0) (d1:=E 1) (d2:=E 2) (d3:=E 3) (d4:=E 4) hk0 hk1 hk2 hk3 hk4
 obtain ⟨k,e5,e6⟩:=vM (d0:=E 5) (d1:=E 6) hk5 hk6
 obtain ⟨x,e7⟩:=ok_int (d:=E 7) hk7
 have el : aH E d54.sig.ins.length=[au m.slots,af m.heads,af m.free,af m.locks,.i m.now,.i k.a,.i k.b,.i x]:=by
  show [E 0,E 1,E 2,E 3,E 4,E 5,E 6,E 7]=_
  rw [e0,e1,e2,e3,e4,e5,e6,e7]
 rw [el] at hp
 rw [el]
 rw [Env.bJ el]
 clear el e0 e1 e2 e3 e4 e5 e6 e7
 rw [fn54,eZ]
 unfold taken
 unfold t54
 refine ai d51 [.i (cP m)] rfl trivial (by simp only [nrm,xdn,reduceIte,Nat.reduceLT,Nat.reduceSub,Nat.reduceAdd,d51,mem_of,aA]) (G0 (fun h=>aj ?_) (fun h=>?_))
 ·simp only [nrm,xdn,reduceIte,Nat.reduceLT,Nat.reduceSub,Nat.reduceAdd,Bool.not_eq_true'] at h ⊢
  rw [if_pos h];rfl
 simp only [nrm,xdn,reduceIte,Nat.reduceLT,Nat.reduceSub,Nat.reduceAdd,Bool.not_eq_false'] at h
 rw [if_neg (by omega)]
 have hm:=(dT m).1 h
 refine ai d52 [.i (checkKey k)] rfl trivial (by simp only [nrm,xdn,reduceIte,Nat.reduceLT,Nat.reduceSub,Nat.reduceAdd,d52,jK,eZ]) (G0 (fun h=>aj ?_) (fun h=>?_))
 ·simp only [nrm,xdn,reduceIte,Nat.reduceLT,Nat.reduceSub,Nat.reduceAdd,Bool.not_eq_true'] at h ⊢
  rw [if_pos h];rfl
 simp only [nrm,xdn,reduceIte,Nat.reduceLT,Nat.reduceSub,Nat.reduceAdd,Bool.not_eq_false'] at h
 rw [if_neg (by omega)]
 refine G0 (fun h=>aj ?_) (fun h1=>G0 (fun h=>aj ?_) (fun h2=>?_))
 ·simp only [nrm,xdn,reduceIte,Nat.reduceLT,Nat.reduceSub,Nat.reduceAdd] at h ⊢
  rw [if_pos (by omega)];rfl
 ·simp only [nrm,xdn,reduceIte,Nat.reduceLT,Nat.reduceSub,Nat.reduceAdd] at h ⊢
  rw [if_pos (by omega)];rfl
 simp only [nrm,xdn,reduceIte,Nat.reduceLT,Nat.reduceSub,Nat.reduceAdd] at h1 h2
 rw [if_neg (by omega)]
 refine ai d161 m.cds rfl trivial (by simp only [nrm,xdn,reduceIte,Nat.reduceLT,Nat.reduceSub,Nat.reduceAdd,d161,mem_of,aA]) ?_
 refine ai d162 ((take m k x).1.cds ++ [.i (take m k x).2.1,.i (take m k x).2.2]) rfl ?_ ?_ ?_
 ·simp only [nrm,xdn,reduceIte,Nat.reduceLT,Nat.reduceSub,Nat.reduceAdd,Mem.cds,d162,mem_of,aA]
  exact hm.last
 ·simp only [nrm,xdn,reduceIte,Nat.reduceLT,Nat.reduceSub,Nat.reduceAdd,Mem.cds,d162,mem_of,aA,List.drop_succ_cons,List.drop_zero,jK,eZ,lca]
 refine G0 (fun h=>aj ?_) (fun h=>aj ?_)
 ·simp only [nrm,xdn,reduceIte,Nat.reduceLT,Nat.reduceSub,Nat.reduceAdd,Mem.cds,lca,Bool.not_eq_true'] at h ⊢
  rw [if_pos h];rfl
 ·simp only [nrm,xdn,reduceIte,Nat.reduceLT,Nat.reduceSub,Nat.reduceAdd,Mem.cds,lca,Bool.not_eq_false'] at h ⊢
  rw [if_neg (by omega)]
def s63 : Sig:=⟨[.agg [.fz kS,.fz kI,.fz kI,.fz kI,.int .i64],.one (.int .i64)],[.agg [.own 52 kS,.own 3 kI,.own 3 kI,.own 3 kI,.int .i64],.one (.int .i64)]⟩
def d63 : DC:=⟨s63,fun _=>True,fun l=>(held (Mem.of l) (l.getD 5 .u).int).1.cds ++ [.i (held (Mem.of l) (l.getD 5 .u).int).2]⟩
theorem fn63 (m : Mem) (x : Int) : d63.fn [au m.slots,af m.heads,af m.free,af m.locks,.i m.now,.i x]=(held m x).1.cds ++ [.i (held m x).2]:=by
 simp only [d63,mem_of,aA,List.getD_cons_zero,List.getD_cons_succ,CD.aR]
def l63 : List (Nat × Ct):=[(51,d51.ct),(165,d165.ct),(161,d161.ct),(166,d166.ct)]
def z63 : Cx:={ T:=ttA,C:=sigs l63,F:=[],hints:=[],sig:=s63}
def t63 : Tree :=
 (.call 51 [.var 0,.var 1,.var 2,.var 3,.var 4] 6
 (.ite (.not (.eq (.var 6) (.int 0)))
 (.ret [.nil,.nil,.nil,.nil,.int 0,.var 6])
 (.call 165 [.var 0,.var 1,.var 2,.var 3,.var 4,.var 5] 7
 (.ite (.not (.var 7))
 (.ret [.nil,.nil,.nil,.nil,.int 0,.int 5])
 (.call 161 [.var 0,.var 1,.var 2,.var 3,.var 4] 8
 (.call 166 [.var 8,.var 9,.var 10,.var 11,.var 12,.var 5] 13
 (.ite (.not (.var 18))
 (.ret [.nil,.nil,.nil,.nil,.int 0,.int 8])
 (.ret [.var 13,.var 14,.var 15,.var 16,.var 17,.int 0]))))))))
theorem run63 : run z63 6000 [.code (Try.f63.body.getD .skip),.fin (bt z63 Try.f63.results.toList 50)] { fn:=63,tmps:=z63.sig.aM ++ List.replicate (Try.f63.ntmps - z63.sig.aM.length) (.v (.one .undef)),stk:=[],h:=z63.sig.h0,nx:=z63.sig.ins.length,known:=[]}=t63:=by kernel_rfl
theorem ok63 : cB Try.prog 63 d63.ct:=by
 refine aD (d:=d63) (Z:=z63) (Γ:=gam l63) (fn:=Try.f63) (c:=Try.f63.body.getD .skip) (bg tok mixed (all_cons ok51 (all_cons ok165 (all_cons ok161 (all_cons ok166 all_nil)))) bh) Try.func63 (by kernel_rfl) (by kernel_rfl) rfl run63 fun E hk hp=>?_
 obtain ⟨hk0,hk1,hk2,hk3,hk4,hk5,_⟩:=hk
 obtain ⟨m,e0,e1,e2,e3,e4,b0,b1,b2,b3⟩:=cv (d0:=E 0) (d1:=E 1) (d2:=E 2) (d3:=E 3) (d4:=E 4) hk0 hk1 hk2 hk3 hk4
 obtain ⟨x,e5⟩:=ok_int (d:=E 5) hk5
 have el : aH E d63.sig.ins.length=[au m.slots,af m.heads,af m.free,af m.locks,.i m.now,.i x]:=by
  show [E 0,E 1,E 2,E 3,E 4,E 5]=_
  rw [e0,e1,e2,e3,e4,e5]
 rw [el] at hp
 rw [el]
 rw [Env.bJ el]
 clear el e0 e1 e2 e3 e4 e5
 rw [fn63]
 unfold held
 unfold t63
 refine ai d51 [.i (cP m)] rfl trivial (by simp only [nrm,xdn,reduceIte,Nat.reduceLT,Nat.reduceSub,Nat.reduceAdd,d51,mem_of,aA]) (G0 (fun h=>aj ?_) (fun h=>?_))
 ·simp only [nrm,xdn,reduceIte,Nat.reduceLT,Nat.reduceSub,Nat.reduceAdd,Bool.not_eq_true'] at h ⊢
  rw [if_pos h];rfl
 simp only [nrm,xdn,reduceIte,Nat.reduceLT,Nat.reduceSub,Nat.reduceAdd,Bool.not_eq_false'] at h
 rw [if_neg (by omega)]
 have hm:=(dT m).1 h
 refine ai d165 [.b (decide (0≤x∧x < m.slots.length))] rfl trivial (by simp only [nrm,xdn,reduceIte,Nat.reduceLT,Nat.reduceSub,Nat.reduceAdd,d165,mem_of,aA]) (G0 (fun h=>aj ?_) (fun h=>?_))
 ·simp only [nrm,xdn,reduceIte,Nat.reduceLT,Nat.reduceSub,Nat.reduceAdd,Bool.not_eq_true'] at h ⊢
  rw [if_neg h];rfl
 simp only [nrm,xdn,reduceIte,Nat.reduceLT,Nat.reduceSub,Nat.reduceAdd,Bool.not_eq_false'] at h
 rw [if_pos h]
 refine ai d161 m.cds rfl trivial (by simp only [nrm,xdn,reduceIte,Nat.reduceLT,Nat.reduceSub,Nat.reduceAdd,d161,mem_of,aA]) ?_
 refine ai d166 ((hold m x).1.cds ++ [.b (hold m x).2]) rfl ?_ ?_ (G0 (fun h=>aj ?_) (fun h=>aj ?_))
 ·simp only [nrm,xdn,reduceIte,Nat.reduceLT,Nat.reduceSub,Nat.reduceAdd,Mem.cds,d166,mem_of,aA]
  exact ⟨h.1,h.2,(hm.refs h.1 h.2).1,(hm.refs h.1 h.2).2⟩
 ·simp only [nrm,xdn,reduceIte,Nat.reduceLT,Nat.reduceSub,Nat.reduceAdd,Mem.cds,d166,mem_of,aA,lca]
 ·simp only [nrm,xdn,reduceIte,Nat.reduceLT,Nat.reduceSub,Nat.reduceAdd,Mem.cds,lca,Bool.not_eq_true'] at h ⊢
  rw [if_neg (by rw [h];decide)];rfl
 ·simp only [nrm,xdn,reduceIte,Nat.reduceLT,Nat.reduceSub,Nat.reduceAdd,Mem.cds,lca,Bool.not_eq_false'] at h ⊢
  rw [if_pos h]
def s64 : Sig:=⟨[.agg [.fz kS,.fz kI,.fz kI,.fz kI,.int .i64],.one (.int .i64)],[.agg [.own 52 kS,.own 3 kI,.own 3 kI,.own 3 kI,.int .i64],.one (.int .i64)]⟩
def d64 : DC:=⟨s64,fun _=>True,fun l=>(Gt (Mem.of l) (l.getD 5 .u).int).1.cds ++ [.i (Gt (Mem.of l) (l.getD 5 .u).int).2]⟩
theorem fn64 (m : Mem) (x : Int) : d64.fn [au m.slots,af m.heads,af m.free,af m.locks,.i m.now,.i x]=(Gt m x).1.cds ++ [.i (Gt m x).2]:=by
 simp only [d64,mem_of,aA,List.getD_cons_zero,List.getD_cons_succ,CD.aR]
def l64 : List (Nat × Ct):=[(51,d51.ct),(165,d165.ct),(161,d161.ct),(167,d167.ct)]
def z64 : Cx:={ T:=ttA,C:=sigs l64,F:=[],hints:=[],sig:=s64}
def t64 : Tree :=
 (.call 51 [.var 0,.var 1,.var 2,.var 3,.var 4] 6
 (.ite (.not (.eq (.var 6) (.int 0)))
 (.ret [.nil,.nil,.nil,.nil,.int 0,.var 6])
 (.call 165 [.var 0,.var 1,.var 2,.var 3,.var 4,.var 5] 7
 (.ite (.not (.var 7))
 (.ret [.nil,.nil,.nil,.nil,.int 0,.int 5])
 (.need (.le (.int 0) (.var 5))
 (.need (.lt (.var 5) (.len (.var 0)))
 (.ite (.eq (.cell (.var 0) (.var 5) 0) (.int 0))
 (.ret [.nil,.nil,.nil,.nil,.int 0,.int 8])
 (.call 161 [.var 0,.var 1,.var 2,.var 3,.var 4] 8
 (.call 167 [.var 8,.var 9,.var 10,.var 11,.var 12,.var 5] 13
 (.ret [.var 13,.var 14,.var 15,.var 16,.var 17,.int 0]))))))))))
theorem run64 : run z64 6000 [.code (Try.f64.body.getD .skip),.fin (bt z64 Try.f64.results.toList 50)] { fn:=64,tmps:=z64.sig.aM ++ List.replicate (Try.f64.ntmps - z64.sig.aM.length) (.v (.one .undef)),stk:=[],h:=z64.sig.h0,nx:=z64.sig.ins.length,known:=[]}=t64:=by kernel_rfl
theorem ok64 : cB Try.prog 64 d64.ct:=by
 refine aD (d:=d64) (Z:=z64) (Γ:=gam l64) (fn:=Try.f64) (c:=Try.f64.body.getD .skip) (bg tok mixed (all_cons ok51 (all_cons ok165 (all_cons ok161 (all_cons ok167 all_nil)))) bh) Try.func64 (by kernel_rfl) (by kernel_rfl) rfl run64 fun E hk hp=>?_
 obtain ⟨hk0,hk1,hk2,hk3,hk4,hk5,_⟩:=hk
 obtain ⟨m,e0,e1,e2,e3,e4,b0,b1,b2,b3⟩:=cv (d0:=E 0) (d1:=E 1) (d2:=E 2) (d3:=E 3) (d4:=E 4) hk0 hk1 hk2 hk3 hk4
 obtain ⟨x,e5⟩:=ok_int (d:=E 5) hk5
 have el : aH E d64.sig.ins.length=[au m.slots,af m.heads,af m.free,af m.locks,.i m.now,.i x]:=by
  show [E 0,E 1,E 2,E 3,E 4,E 5]=_
  rw [e0,e1,e2,e3,e4,e5]
 rw [el] at hp
 rw [el]
 rw [Env.bJ el]
 clear el e0 e1 e2 e3 e4 e5
 rw [fn64]
 unfold Gt
 unfold t64
 refine ai d51 [.i (cP m)] rfl trivial (by simp only [nrm,xdn,reduceIte,Nat.reduceLT,Nat.reduceSub,Nat.reduceAdd,d51,mem_of,aA]) (G0 (fun h=>aj ?_) (fun h=>?_))
 ·simp only [nrm,xdn,reduceIte,Nat.reduceLT,Nat.reduceSub,Nat.reduceAdd,Bool.not_eq_true'] at h ⊢
  rw [if_pos h];rfl
 simp only [nrm,xdn,reduceIte,Nat.reduceLT,Nat.reduceSub,Nat.reduceAdd,Bool.not_eq_false'] at h
 rw [if_neg (by omega)]
 have hm:=(dT m).1 h
 refine ai d165 [.b (decide (0≤x∧x < m.slots.length))] rfl trivial (by simp only [nrm,xdn,reduceIte,Nat.reduceLT,Nat.reduceSub,Nat.reduceAdd,d165,mem_of,aA]) (G0 (fun h=>aj ?_) (fun h=>?_))
 ·simp only [nrm,xdn,reduceIte,Nat.reduceLT,Nat.reduceSub,Nat.reduceAdd,Bool.not_eq_true'] at h ⊢
  rw [if_neg h];rfl
 simp only [nrm,xdn,reduceIte,Nat.reduceLT,Nat.reduceSub,Nat.reduceAdd,Bool.not_eq_false'] at h
 rw [if_pos h]
 have hx : m.slots.getD x.toNat default=msl m x.toNat:=rfl
 refine eh (by simp only [nrm,xdn,reduceIte,Nat.reduceLT,Nat.reduceSub,Nat.reduceAdd];omega) (lv (by simp only [nrm,xdn,reduceIte,Nat.reduceLT,Nat.reduceSub,Nat.reduceAdd,aN];omega) (G0 (fun h'=>aj ?_) (fun h'=>?_)))
 ·simp only [nrm,xdn,reduceIte,Nat.reduceLT,Nat.reduceSub,Nat.reduceAdd,cX,hx] at h' ⊢
  rw [if_pos h'];rfl
 simp only [nrm,xdn,reduceIte,Nat.reduceLT,Nat.reduceSub,Nat.reduceAdd,cX,hx] at h'
 rw [if_neg h']
 refine ai d161 m.cds rfl trivial (by simp only [nrm,xdn,reduceIte,Nat.reduceLT,Nat.reduceSub,Nat.reduceAdd,d161,mem_of,aA]) ?_
 refine ai d167 (put m x).cds rfl ?_ ?_ (aj ?_)
 ·simp only [nrm,xdn,reduceIte,Nat.reduceLT,Nat.reduceSub,Nat.reduceAdd,Mem.cds,d167,mem_of,aA]
  have:=hm.nf
  exact ⟨h.1,h.2,(hm.refs h.1 h.2).1,(hm.refs h.1 h.2).2,by omega⟩
 ·simp only [nrm,xdn,reduceIte,Nat.reduceLT,Nat.reduceSub,Nat.reduceAdd,Mem.cds,d167,mem_of,aA,lca]
 ·simp only [nrm,xdn,reduceIte,Nat.reduceLT,Nat.reduceSub,Nat.reduceAdd,Mem.cds,lca]
theorem F3 {a b : Mem} (h1 : a.slots=b.slots) (h2 : a.heads=b.heads) (h3 : a.free=b.free) (h4 : a.locks=b.locks) (h5 : a.now=b.now) : a=b:=by
 obtain ⟨a1,a2,a3,a4,a5⟩:=a
 obtain ⟨b1,b2,b3,b4,b5⟩:=b
 cases h1;cases h2;cases h3;cases h4;cases h5;rfl
def s59 : Sig:=⟨[.agg [.fz kS,.fz kI,.fz kI,.fz kI,.int .i64],.agg [.fz kS,.fz kI,.fz kI,.fz kI,.int .i64]],[.one (.bool)]⟩
def d59 : DC:=⟨s59,fun _=>True,fun l=>[.b (decide (Mem.of l=Mem.of (l.drop 5)))]⟩
theorem fn59 (m o : Mem) : d59.fn [au m.slots,af m.heads,af m.free,af m.locks,.i m.now,au o.slots,af o.heads,af o.free,af o.locks,.i o.now]=[.b (decide (m=o))]:=by
 simp only [d59,mem_of,aA,List.drop_succ_cons,List.drop_zero]
def l59 : List (Nat × Ct):=[(164,d164.ct),(39,d39.ct)]
def z59 : Cx:={ T:=ttA,C:=sigs l59,F:=[],hints:=[],sig:=s59}
def t59 : Tree :=
 (.call 164 [.var 0,.var 5] 10
 (.ite (.var 10)
 (.call 39 [.var 1,.var 6] 11
 (.ite (.var 11)
 (.call 39 [.var 2,.var 7] 12
 (.ite (.var 12)
 (.call 39 [.var 3,.var 8] 13
 (.ite (.var 13)
 (.ret [.eq (.var 4) (.var 9)])
 (.ret [.bool false])))
 (.ret [.bool false])))
 (.ret [.bool false])))
 (.ret [.bool false])))
theorem run59 : run z59 6000 [.code (Try.f59.body.getD .skip),.fin (bt z59 Try.f59.results.toList 50)] { fn:=59,tmps:=z59.sig.aM ++ List.replicate (Try.f59.ntmps - z59.sig.aM.length) (.v (.one .undef)),stk:=[],h:=z59.sig.h0,nx:=z59.sig.ins.length,known:=[]}=t59:=by kernel_rfl
theorem ok59 : cB Try.prog 59 d59.ct:=by
 refine aD (d:=d59) (Z:=z59) (Γ:=gam l59) (fn:=Try.f59) (c:=Try.f59.body.getD .skip) (bg tok mixed (all_cons ok164 (all_cons ok39 all_nil)) bh) Try.func59 (by kernel_rfl) (by kernel_rfl) rfl run59 fun E hk hp=>?_
 obtain ⟨hk0,hk1,hk2,hk3,hk4,hk5,hk6,hk7,hk8,hk9,_⟩:=hk
 obtain ⟨m,e0,e1,e2,e3,e4,b0,b1,b2,b3⟩:=cv (d0:=E 0) (d1:=E 1) (d2:=E 2) (d3:=E 3) (d4:=E 4) hk0 hk1 hk2 hk3 hk4
 obtain ⟨m2,e5,e6,e7,e8,e9,b5,b6,b7,b8⟩:=cv (d0:=E 5) (d1:=E 6) (d2:=E 7) (d3:=E 8) (d4:=E 9) hk5 hk6 hk7 hk8 hk9
 have el : aH E d59.sig.ins.length=[au m.slots,af m.heads,af m.free,af m.locks,.i m.now,au m2.slots,af m2.heads,af m2.free,af m2.locks,.i m2.now]:=by
  show [E 0,E 1,E 2,E 3,E 4,E 5,E 6,E 7,E 8,E 9]=_
  rw [e0,e1,e2,e3,e4,e5,e6,e7,e8,e9]
 rw [el] at hp
 rw [el]
 rw [Env.bJ el]
 clear el e0 e1 e2 e3 e4 e5 e6 e7 e8 e9
 rw [fn59]
 unfold t59
 refine ai d164 [.b (decide (m.slots=m2.slots))] rfl trivial (by simp only [nrm,xdn,reduceIte,Nat.reduceLT,Nat.reduceSub,Nat.reduceAdd,d164,kA]) (G0 (fun h1=>?_) (fun h=>aj ?_))
 case refine_2 =>
  simp only [nrm,xdn,reduceIte,Nat.reduceLT,Nat.reduceSub,Nat.reduceAdd] at h ⊢
  rw [decide_eq_false (fun e=>h (by rw [e]))]
 refine ai d39 [.b (decide (m.heads=m2.heads))] rfl trivial (by simp only [nrm,xdn,reduceIte,Nat.reduceLT,Nat.reduceSub,Nat.reduceAdd,d39,bY]) (G0 (fun h2=>?_) (fun h=>aj ?_))
 case refine_2 =>
  simp only [nrm,xdn,reduceIte,Nat.reduceLT,Nat.reduceSub,Nat.reduceAdd] at h ⊢
  rw [decide_eq_false (fun e=>h (by rw [e]))]
 refine ai d39 [.b (decide (m.free=m2.free))] rfl trivial (by simp only [nrm,xdn,reduceIte,Nat.reduceLT,Nat.reduceSub,Nat.reduceAdd,d39,bY]) (G0 (fun h3=>?_) (fun h=>aj ?_))
 case refine_2 =>
  simp only [nrm,xdn,reduceIte,Nat.reduceLT,Nat.reduceSub,Nat.reduceAdd] at h ⊢
  rw [decide_eq_false (fun e=>h (by rw [e]))]
 refine ai d39 [.b (decide (m.locks=m2.locks))] rfl trivial (by simp only [nrm,xdn,reduceIte,Nat.reduceLT,Nat.reduceSub,Nat.reduceAdd,d39,bY]) (G0 (fun h4=>aj ?_) (fun h=>aj ?_))
 case refine_2 =>
  simp only [nrm,xdn,reduceIte,Nat.reduceLT,Nat.reduceSub,Nat.reduceAdd] at h ⊢
  rw [decide_eq_false (fun e=>h (by rw [e]))]
 simp only [nrm,xdn,reduceIte,Nat.reduceLT,Nat.reduceSub,Nat.reduceAdd] at h1 h2 h3 h4 ⊢
 congr 2
 by_cases h5 : m.now=m2.now
 ·rw [decide_eq_true (F3 h1 h2 h3 h4 h5)]
  simp [h5]
 ·rw [decide_eq_false (fun e=>h5 (by rw [e]))]
  simp [h5]
def s60 : Sig:=⟨[.agg [.fz kS,.fz kI,.fz kI,.fz kI,.int .i64],.agg [.fz kS,.fz kI,.fz kI,.fz kI,.int .i64]],[.one (.bool)]⟩
def d60 : DC:=⟨s60,fun _=>True,fun l=>[.b (decide (Mem.of l=Mem.of (l.drop 5)))]⟩
theorem fn60 (m o : Mem) : d60.fn [au m.slots,af m.heads,af m.free,af m.locks,.i m.now,au o.slots,af o.heads,af o.free,af o.locks,.i o.now]=[.b (decide (m=o))]:=by
 simp only [d60,mem_of,aA,List.drop_succ_cons,List.drop_zero]
def l60 : List (Nat × Ct):=[(164,d164.ct),(39,d39.ct)]
def z60 : Cx:={ T:=ttA,C:=sigs l60,F:=[],hints:=[],sig:=s60}
def t60 : Tree :=
 (.call 164 [.var 0,.var 5] 10
 (.ite (.var 10)
 (.call 39 [.var 1,.var 6] 11
 (.ite (.var 11)
 (.call 39 [.var 2,.var 7] 12
 (.ite (.var 12)
 (.call 39 [.var 3,.var 8] 13
 (.ite (.var 13)
 (.ret [.eq (.var 4) (.var 9)])
 (.ret [.bool false])))
 (.ret [.bool false])))
 (.ret [.bool false])))
 (.ret [.bool false])))
theorem run60 : run z60 6000 [.code (Try.f60.body.getD .skip),.fin (bt z60 Try.f60.results.toList 50)] { fn:=60,tmps:=z60.sig.aM ++ List.replicate (Try.f60.ntmps - z60.sig.aM.length) (.v (.one .undef)),stk:=[],h:=z60.sig.h0,nx:=z60.sig.ins.length,known:=[]}=t60:=by kernel_rfl
theorem ok60 : cB Try.prog 60 d60.ct:=by
 refine aD (d:=d60) (Z:=z60) (Γ:=gam l60) (fn:=Try.f60) (c:=Try.f60.body.getD .skip) (bg tok mixed (all_cons ok164 (all_cons ok39 all_nil)) bh) Try.func60 (by kernel_rfl) (by kernel_rfl) rfl run60 fun E hk hp=>?_
 obtain ⟨hk0,hk1,hk2,hk3,hk4,hk5,hk6,hk7,hk8,hk9,_⟩:=hk
 obtain ⟨m,e0,e1,e2,e3,e4,b0,b1,b2,b3⟩:=cv (d0:=E 0) (d1:=E 1) (d2:=E 2) (d3:=E 3) (d4:=E 4) hk0 hk1 hk2 hk3 hk4
 obtain ⟨m2,e5,e6,e7,e8,e9,b5,b6,b7,b8⟩:=cv (d0:=E 5) (d1:=E 6) (d2:=E 7) (d3:=E 8) (d4:=E 9) hk5 hk6 hk7 hk8 hk9
 have el : aH E d60.sig.ins.length=[au m.slots,af m.heads,af m.free,af m.locks,.i m.now,au m2.slots,af m2.heads,af m2.free,af m2.locks,.i m2.now]:=by
  show [E 0,E 1,E 2,E 3,E 4,E 5,E 6,E 7,E 8,E 9]=_
  rw [e0,e1,e2,e3,e4,e5,e6,e7,e8,e9]
 rw [el] at hp
 rw [el]
 rw [Env.bJ el]
 clear el e0 e1 e2 e3 e4 e5 e6 e7 e8 e9
 rw [fn60]
 unfold t60
 refine ai d164 [.b (decide (m.slots=m2.slots))] rfl trivial (by simp only [nrm,xdn,reduceIte,Nat.reduceLT,Nat.reduceSub,Nat.reduceAdd,d164,kA]) (G0 (fun h1=>?_) (fun h=>aj ?_))
 case refine_2 =>
  simp only [nrm,xdn,reduceIte,Nat.reduceLT,Nat.reduceSub,Nat.reduceAdd] at h ⊢
  rw [decide_eq_false (fun e=>h (by rw [e]))]
 refine ai d39 [.b (decide (m.heads=m2.heads))] rfl trivial (by simp only [nrm,xdn,reduceIte,Nat.reduceLT,Nat.reduceSub,Nat.reduceAdd,d39,bY]) (G0 (fun h2=>?_) (fun h=>aj ?_))
 case refine_2 =>
  simp only [nrm,xdn,reduceIte,Nat.reduceLT,Nat.reduceSub,Nat.reduceAdd] at h ⊢
  rw [decide_eq_false (fun e=>h (by rw [e]))]
 refine ai d39 [.b (decide (m.free=m2.free))] rfl trivial (by simp only [nrm,xdn,reduceIte,Nat.reduceLT,Nat.reduceSub,Nat.reduceAdd,d39,bY]) (G0 (fun h3=>?_) (fun h=>aj ?_))
 case refine_2 =>
  simp only [nrm,xdn,reduceIte,Nat.reduceLT,Nat.reduceSub,Nat.reduceAdd] at h ⊢
  rw [decide_eq_false (fun e=>h (by rw [e]))]
 refine ai d39 [.b (decide (m.locks=m2.locks))] rfl trivial (by simp only [nrm,xdn,reduceIte,Nat.reduceLT,Nat.reduceSub,Nat.reduceAdd,d39,bY]) (G0 (fun h4=>aj ?_) (fun h=>aj ?_))
 case refine_2 =>
  simp only [nrm,xdn,reduceIte,Nat.reduceLT,Nat.reduceSub,Nat.reduceAdd] at h ⊢
  rw [decide_eq_false (fun e=>h (by rw [e]))]
 simp only [nrm,xdn,reduceIte,Nat.reduceLT,Nat.reduceSub,Nat.reduceAdd] at h1 h2 h3 h4 ⊢
 congr 2
 by_cases h5 : m.now=m2.now
 ·rw [decide_eq_true (F3 h1 h2 h3 h4 h5)]
  simp [h5]
 ·rw [decide_eq_false (fun e=>h5 (by rw [e]))]
  simp [h5]
end Go.Proofs.Ytpmamacjepcdmaa
