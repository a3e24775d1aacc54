import Derived.Test.YtpmamacjepcdmaaCDelete
namespace Go.Proofs.Ytpmamacjepcdmaa
open Go Go.Sy Go.RowKit
set_option linter.unusedSimpArgs false
set_option linter.unusedVariables false
abbrev Key.Ok (k : Key) : Prop:=0≤k.a∧k.a≤15∧0≤k.b∧k.b≤15
def checkKey (k : Key) : Int:=if Key.Ok k then 0 else 3
def aY (k : Key) (n : Int) : Int × Int:=if Key.Ok k then (if n < 1∨4 < n then (0,3) else ((k.a * 7 + k.b * 3 + k.a * k.b).tmod n,0)) else (0,3)
def bf (m : Mem) (c : Cal) : Int :=
 if c.kind=1∨c.kind=3 then checkKey c.k
 else if c.kind=2 then (if c.time < 1∨1000000 < c.time then 3 else checkKey c.k)
 else if c.kind=4∨c.kind=5 then (if c.bucket < 0∨m.heads.length≤c.bucket then 5 else 0)
 else if c.kind=6 then (if c.slot < 0∨m.slots.length≤c.slot then 5 else 0)
 else 4
def eO (m : Mem) (f : Frm) : Int :=
 if bf m f.c≠0 then bf m f.c
 else if f.pc < 0∨9 < f.pc∨f.n < 0∨1000000 < f.n then 3
 else if f.done=true then 3
 else if f.cur < -(m.heads.length : Int)∨m.slots.length < f.cur∨f.prev < 0∨m.slots.length < f.prev∨f.slot < -1∨(m.slots.length : Int) - 1 < f.slot then 5
 else if 100 < f.keys.length then 2
 else 0
def aa (m : Mem) (c : Cal) : Int:=if c.kind=4∨c.kind=5 then c.bucket else (aY c.k m.heads.length).1
def aX (c : Cal) : Frm:=⟨c,0,0,0,-1,0,[],false,0⟩
def ay (f : Frm) (e : Int) : Frm:={ f with done:=true,e:=e}
def s52 : Sig:=⟨[.agg [.int .i64,.int .i64]],[.one (.int .i64)]⟩
def d52 : DC:=⟨s52,fun _=>True,fun l=>[.i (checkKey (Key.of l))]⟩
def l52 : List (Nat × Ct):=[]
def z52 : Cx:={ T:=ttA,C:=sigs l52,F:=[],hints:=[⟨52,2,true,[],[],[],[],0,0,false⟩],sig:=s52}
def t52 : Tree :=
 (.ite (.lt (.var 0) (.int 0))
 (.ret [.int 3])
 (.ite (.lt (.int 15) (.var 0))
 (.ret [.int 3])
 (.ite (.lt (.var 1) (.int 0))
 (.ret [.int 3])
 (.ite (.lt (.int 15) (.var 1))
 (.ret [.int 3])
 (.ret [.int 0])))))
theorem run52 : run z52 6000 [.code (Try.f52.body.getD .skip),.fin (bt z52 Try.f52.results.toList 50)] { fn:=52,tmps:=z52.sig.aM ++ List.replicate (Try.f52.ntmps - z52.sig.aM.length) (.v (.one .undef)),stk:=[],h:=z52.sig.h0,nx:=z52.sig.ins.length,known:=[]}=t52:=by kernel_rfl
theorem ok52 : cB Try.prog 52 d52.ct:=by
 refine aD (d:=d52) (Z:=z52) (Γ:=gam l52) (fn:=Try.f52) (c:=Try.f52.body.getD .skip) (bg tok mixed all_nil bh) Try.func52 (by kernel_rfl) (by kernel_rfl) rfl run52 fun E hk hp=>?_
 obtain ⟨hk0,hk1,_⟩:=hk
 obtain ⟨k,e0,e1⟩:=vM (d0:=E 0) (d1:=E 1) hk0 hk1
 have el : aH E d52.sig.ins.length=[.i k.a,.i k.b]:=by
  show [E 0,E 1]=_
  rw [e0,e1]
 rw [el] at hp
 rw [el]
 rw [Env.bJ el]
 clear el e0 e1
 unfold t52
 repeat' (first | refine G0 (fun h=>?_) (fun h=>?_) | refine aj ?_)
 all_goals
  simp only [nrm,xdn,reduceIte,Nat.reduceLT,Nat.reduceSub,Nat.reduceAdd,d52,jK,eZ] at *
  simp only [checkKey]
  first | rw [if_pos (by omega)] | rw [if_neg (by omega)]
def s160 : Sig:=⟨[.agg [.fz kS,.fz kI,.fz kI,.fz kI,.int .i64],.one (.int .i64)],[.one (.bool)]⟩
def d160 : DC:=⟨s160,fun _=>True,fun l=>[.b (decide ((l.getD 5 .u).int≤(Mem.of l).slots.length∧-((Mem.of l).heads.length : Int)≤(l.getD 5 .u).int))]⟩
def l160 : List (Nat × Ct):=[]
def z160 : Cx:={ T:=ttA,C:=sigs l160,F:=[],hints:=[],sig:=s160}
def t160 : Tree :=
 (.ite (.le (.var 5) (.len (.var 0)))
 (.need (.fit (.sub (.int 0) (.len (.var 1))))
 (.ret [.le (.sub (.int 0) (.len (.var 1))) (.var 5)]))
 (.ret [.bool false]))
theorem run160 : run z160 6000 [.code (Try.f160.body.getD .skip),.fin (bt z160 Try.f160.results.toList 50)] { fn:=160,tmps:=z160.sig.aM ++ List.replicate (Try.f160.ntmps - z160.sig.aM.length) (.v (.one .undef)),stk:=[],h:=z160.sig.h0,nx:=z160.sig.ins.length,known:=[]}=t160:=by kernel_rfl
theorem ok160 : cB Try.prog 160 d160.ct:=by
 refine aD (d:=d160) (Z:=z160) (Γ:=gam l160) (fn:=Try.f160) (c:=Try.f160.body.getD .skip) (bg tok mixed all_nil bh) Try.func160 (by kernel_rfl) (by kernel_rfl) rfl run160 fun E hk hp=>?_
 obtain ⟨hk0,hk1,hk2,hk3,hk4,hk5,_⟩:=hk
 obtain ⟨m,e0,e1,e2,e3,e4,b0,b1,b2,b3⟩:=cv (d0:=E 0) (d1:=E 1) (d2:=E 2) (d3:=E 3) (d4:=E 4) hk0 hk1 hk2 hk3 hk4
 obtain ⟨x,e5⟩:=ok_int (d:=E 5) hk5
 have el : aH E d160.sig.ins.length=[au m.slots,af m.heads,af m.free,af m.ae,.i m.now,.i x]:=by
  show [E 0,E 1,E 2,E 3,E 4,E 5]=_
  rw [e0,e1,e2,e3,e4,e5]
 rw [el] at hp
 rw [el]
 rw [Env.bJ el]
 clear el e0 e1 e2 e3 e4 e5
 unfold t160
 repeat' (first | refine G0 (fun h=>?_) (fun h=>?_) | refine G1 ?_ ?_ | refine aj ?_)
 all_goals
  simp only [nrm,xdn,reduceIte,Nat.reduceLT,Nat.reduceSub,Nat.reduceAdd,d160,mem_of,aA,aN,aw] at *
  first
   | omega
   | (simp only [List.cons.injEq,CD.b.injEq,and_true,decide_eq_decide];omega)
   | (rw [decide_eq_false (by omega)])
def s40 : Sig:=⟨[.agg [.fz kS,.fz kI,.fz kI,.fz kI,.int .i64],.agg [.int .i64,.int .i64,.int .i64,.int .i64,.int .i64,.int .i64]],[.one (.int .i64)]⟩
def d40 : DC:=⟨s40,fun _=>True,fun l=>[.i (bf (Mem.of l) (Cal.of (l.drop 5)))]⟩
def l40 : List (Nat × Ct):=[(52,d52.ct)]
def z40 : Cx:={ T:=ttA,C:=sigs l40,F:=[],hints:=[],sig:=s40}
def t40 : Tree :=
 (.ite (.eq (.var 5) (.int 1))
 (.call 52 [.var 6,.var 7] 11
 (.ret [.var 11]))
 (.ite (.eq (.var 5) (.int 3))
 (.call 52 [.var 6,.var 7] 11
 (.ret [.var 11]))
 (.ite (.eq (.var 5) (.int 2))
 (.ite (.lt (.var 8) (.int 1))
 (.ret [.int 3])
 (.ite (.lt (.int 1000000) (.var 8))
 (.ret [.int 3])
 (.call 52 [.var 6,.var 7] 11
 (.ret [.var 11]))))
 (.ite (.eq (.var 5) (.int 4))
 (.ite (.lt (.var 9) (.int 0))
 (.ret [.int 5])
 (.ite (.le (.len (.var 1)) (.var 9))
 (.ret [.int 5])
 (.ret [.int 0])))
 (.ite (.eq (.var 5) (.int 5))
 (.ite (.lt (.var 9) (.int 0))
 (.ret [.int 5])
 (.ite (.le (.len (.var 1)) (.var 9))
 (.ret [.int 5])
 (.ret [.int 0])))
 (.ite (.eq (.var 5) (.int 6))
 (.ite (.lt (.var 10) (.int 0))
 (.ret [.int 5])
 (.ite (.le (.len (.var 0)) (.var 10))
 (.ret [.int 5])
 (.ret [.int 0])))
 (.ret [.int 4])))))))
theorem run40 : run z40 6000 [.code (Try.f40.body.getD .skip),.fin (bt z40 Try.f40.results.toList 50)] { fn:=40,tmps:=z40.sig.aM ++ List.replicate (Try.f40.ntmps - z40.sig.aM.length) (.v (.one .undef)),stk:=[],h:=z40.sig.h0,nx:=z40.sig.ins.length,known:=[]}=t40:=by kernel_rfl
theorem ok40 : cB Try.prog 40 d40.ct:=by
 refine aD (d:=d40) (Z:=z40) (Γ:=gam l40) (fn:=Try.f40) (c:=Try.f40.body.getD .skip) (bg tok mixed (all_cons ok52 all_nil) bh) Try.func40 (by kernel_rfl) (by kernel_rfl) rfl run40 fun E hk hp=>?_
 obtain ⟨hk0,hk1,hk2,hk3,hk4,hk5,hk6,hk7,hk8,hk9,hk10,_⟩:=hk
 obtain ⟨m,e0,e1,e2,e3,e4,b0,b1,b2,b3⟩:=cv (d0:=E 0) (d1:=E 1) (d2:=E 2) (d3:=E 3) (d4:=E 4) hk0 hk1 hk2 hk3 hk4
 obtain ⟨c,e5,e6,e7,e8,e9,e10⟩:=kR (d0:=E 5) (d1:=E 6) (d2:=E 7) (d3:=E 8) (d4:=E 9) (d5:=E 10) hk5 hk6 hk7 hk8 hk9 hk10
 have el : aH E d40.sig.ins.length=[au m.slots,af m.heads,af m.free,af m.ae,.i m.now,.i c.kind,.i c.k.a,.i c.k.b,.i c.time,.i c.bucket,.i c.slot]:=by
  show [E 0,E 1,E 2,E 3,E 4,E 5,E 6,E 7,E 8,E 9,E 10]=_
  rw [e0,e1,e2,e3,e4,e5,e6,e7,e8,e9,e10]
 rw [el] at hp
 rw [el]
 rw [Env.bJ el]
 clear el e0 e1 e2 e3 e4 e5 e6 e7 e8 e9 e10
 unfold t40
 repeat' (first | refine G0 (fun h=>?_) (fun h=>?_) | refine xX d52 rfl trivial ?_ | refine aj ?_)
 all_goals
  simp only [nrm,xdn,reduceIte,Nat.reduceLT,Nat.reduceSub,Nat.reduceAdd,d40,d52,mem_of,aA,fG,cz,jK,eZ,aN,aw,List.drop_succ_cons,List.drop_zero] at *
  simp only [bf]
  repeat (first | rw [if_pos (by omega)] | rw [if_neg (by omega)])
def s41 : Sig:=⟨[.agg [.int .i64,.int .i64,.int .i64,.int .i64,.int .i64,.int .i64]],[.agg [.int .i64,.int .i64,.int .i64,.int .i64,.int .i64,.int .i64,.int .i64,.int .i64,.int .i64,.int .i64,.int .i64,.fz kK,.bool,.int .i64]]⟩
def d41 : DC:=⟨s41,fun _=>True,fun l=>(aX (Cal.of l)).cds⟩
def l41 : List (Nat × Ct):=[]
def z41 : Cx:={ T:=ttA,C:=sigs l41,F:=[],hints:=[],sig:=s41}
def t41 : Tree :=
 (.ret [.var 0,.var 1,.var 2,.var 3,.var 4,.var 5,.int 0,.int 0,.int 0,.int (-1),.int 0,.nil,.bool false,.int 0])
theorem run41 : run z41 6000 [.code (Try.f41.body.getD .skip),.fin (bt z41 Try.f41.results.toList 50)] { fn:=41,tmps:=z41.sig.aM ++ List.replicate (Try.f41.ntmps - z41.sig.aM.length) (.v (.one .undef)),stk:=[],h:=z41.sig.h0,nx:=z41.sig.ins.length,known:=[]}=t41:=by kernel_rfl
theorem ok41 : cB Try.prog 41 d41.ct:=by
 refine aD (d:=d41) (Z:=z41) (Γ:=gam l41) (fn:=Try.f41) (c:=Try.f41.body.getD .skip) (bg tok mixed all_nil bh) Try.func41 (by kernel_rfl) (by kernel_rfl) rfl run41 fun E hk hp=>?_
 obtain ⟨hk0,hk1,hk2,hk3,hk4,hk5,_⟩:=hk
 obtain ⟨c,e0,e1,e2,e3,e4,e5⟩:=kR (d0:=E 0) (d1:=E 1) (d2:=E 2) (d3:=E 3) (d4:=E 4) (d5:=E 5) hk0 hk1 hk2 hk3 hk4 hk5
 have el : aH E d41.sig.ins.length=[.i c.kind,.i c.k.a,.i c.k.b,.i c.time,.i c.bucket,.i c.slot]:=by
  show [E 0,E 1,E 2,E 3,E 4,E 5]=_
  rw [e0,e1,e2,e3,e4,e5]
 rw [el] at hp
 rw [el]
 rw [Env.bJ el]
 clear el e0 e1 e2 e3 e4 e5
 unfold t41
 refine aj ?_
 simp only [nrm,xdn,reduceIte,Nat.reduceLT,Nat.reduceSub,Nat.reduceAdd,d41,fG,cz,aX,Frm.cds,keys_nil]
def s44 : Sig:=⟨[.agg [.int .i64,.int .i64,.int .i64,.int .i64,.int .i64,.int .i64,.int .i64,.int .i64,.int .i64,.int .i64,.int .i64,.fz kK,.bool,.int .i64],.one (.int .i64)],[.agg [.int .i64,.int .i64,.int .i64,.int .i64,.int .i64,.int .i64,.int .i64,.int .i64,.int .i64,.int .i64,.int .i64,.fz kK,.bool,.int .i64]]⟩
def d44 : DC:=⟨s44,fun _=>True,fun l=>(ay (Frm.of l) (l.getD 14 .u).int).cds⟩
def l44 : List (Nat × Ct):=[]
def z44 : Cx:={ T:=ttA,C:=sigs l44,F:=[],hints:=[],sig:=s44}
def t44 : Tree :=
 (.ret [.var 0,.var 1,.var 2,.var 3,.var 4,.var 5,.var 6,.var 7,.var 8,.var 9,.var 10,.var 11,.bool true,.var 14])
theorem run44 : run z44 6000 [.code (Try.f44.body.getD .skip),.fin (bt z44 Try.f44.results.toList 50)] { fn:=44,tmps:=z44.sig.aM ++ List.replicate (Try.f44.ntmps - z44.sig.aM.length) (.v (.one .undef)),stk:=[],h:=z44.sig.h0,nx:=z44.sig.ins.length,known:=[]}=t44:=by kernel_rfl
theorem ok44 : cB Try.prog 44 d44.ct:=by
 refine aD (d:=d44) (Z:=z44) (Γ:=gam l44) (fn:=Try.f44) (c:=Try.f44.body.getD .skip) (bg tok mixed all_nil bh) Try.func44 (by kernel_rfl) (by kernel_rfl) rfl run44 fun E hk hp=>?_
 obtain ⟨hk0,hk1,hk2,hk3,hk4,hk5,hk6,hk7,hk8,hk9,hk10,hk11,hk12,hk13,hk14,_⟩:=hk
 obtain ⟨f,e0,e1,e2,e3,e4,e5,e6,e7,e8,e9,e10,e11,e12,e13,b11⟩:=ja (d0:=E 0) (d1:=E 1) (d2:=E 2) (d3:=E 3) (d4:=E 4) (d5:=E 5) (d6:=E 6) (d7:=E 7) (d8:=E 8) (d9:=E 9) (d10:=E 10) (d11:=E 11) (d12:=E 12) (d13:=E 13) hk0 hk1 hk2 hk3 hk4 hk5 hk6 hk7 hk8 hk9 hk10 hk11 hk12 hk13
 obtain ⟨x,e14⟩:=ok_int (d:=E 14) hk14
 have el : aH E d44.sig.ins.length=[.i f.c.kind,.i f.c.k.a,.i f.c.k.b,.i f.c.time,.i f.c.bucket,.i f.c.slot,.i f.pc,.i f.cur,.i f.prev,.i f.slot,.i f.n,bS f.keys,.b f.done,.i f.e,.i x]:=by
  show [E 0,E 1,E 2,E 3,E 4,E 5,E 6,E 7,E 8,E 9,E 10,E 11,E 12,E 13,E 14]=_
  rw [e0,e1,e2,e3,e4,e5,e6,e7,e8,e9,e10,e11,e12,e13,e14]
 rw [el] at hp
 rw [el]
 rw [Env.bJ el]
 clear el e0 e1 e2 e3 e4 e5 e6 e7 e8 e9 e10 e11 e12 e13 e14
 unfold t44
 refine aj ?_
 simp only [nrm,xdn,reduceIte,Nat.reduceLT,Nat.reduceSub,Nat.reduceAdd,d44,dJ,ay,Frm.cds]
def s43 : Sig:=⟨[.agg [.fz kS,.fz kI,.fz kI,.fz kI,.int .i64],.agg [.int .i64,.int .i64,.int .i64,.int .i64,.int .i64,.int .i64,.int .i64,.int .i64,.int .i64,.int .i64,.int .i64,.fz kK,.bool,.int .i64]],[.one (.int .i64)]⟩
def d43 : DC:=⟨s43,fun _=>True,fun l=>[.i (eO (Mem.of l) (Frm.of (l.drop 5)))]⟩
def l43 : List (Nat × Ct):=[(40,d40.ct)]
def z43 : Cx:={ T:=ttA,C:=sigs l43,F:=[],hints:=[⟨43,7,true,[],[],[],[],0,0,false⟩],sig:=s43}
def t43 : Tree :=
 (.call 40 [.var 0,.var 1,.var 2,.var 3,.var 4,.var 5,.var 6,.var 7,.var 8,.var 9,.var 10] 19
 (.ite (.not (.eq (.var 19) (.int 0)))
 (.ret [.var 19])
 (.ite (.lt (.var 11) (.int 0))
 (.ret [.int 3])
 (.ite (.lt (.int 9) (.var 11))
 (.ret [.int 3])
 (.ite (.lt (.var 15) (.int 0))
 (.ret [.int 3])
 (.ite (.lt (.int 1000000) (.var 15))
 (.ret [.int 3])
 (.ite (.var 17)
 (.ret [.int 3])
 (.need (.fit (.sub (.int 0) (.len (.var 1))))
 (.need (.fit (.sub (.len (.var 0)) (.int 1)))
 (.ite (.lt (.var 12) (.sub (.int 0) (.len (.var 1))))
 (.ret [.int 5])
 (.ite (.lt (.len (.var 0)) (.var 12))
 (.ret [.int 5])
 (.ite (.lt (.var 13) (.int 0))
 (.ret [.int 5])
 (.ite (.lt (.len (.var 0)) (.var 13))
 (.ret [.int 5])
 (.ite (.lt (.var 14) (.int (-1)))
 (.ret [.int 5])
 (.ite (.lt (.sub (.len (.var 0)) (.int 1)) (.var 14))
 (.ret [.int 5])
 (.ite (.lt (.int 100) (.len (.var 16)))
 (.ret [.int 2])
 (.ret [.int 0])))))))))))))))))
theorem run43 : run z43 6000 [.code (Try.f43.body.getD .skip),.fin (bt z43 Try.f43.results.toList 50)] { fn:=43,tmps:=z43.sig.aM ++ List.replicate (Try.f43.ntmps - z43.sig.aM.length) (.v (.one .undef)),stk:=[],h:=z43.sig.h0,nx:=z43.sig.ins.length,known:=[]}=t43:=by kernel_rfl
theorem ok43 : cB Try.prog 43 d43.ct:=by
 refine aD (d:=d43) (Z:=z43) (Γ:=gam l43) (fn:=Try.f43) (c:=Try.f43.body.getD .skip) (bg tok mixed (all_cons ok40 all_nil) bh) Try.func43 (by kernel_rfl) (by kernel_rfl) rfl run43 fun E hk hp=>?_
 obtain ⟨hk0,hk1,hk2,hk3,hk4,hk5,hk6,hk7,hk8,hk9,hk10,hk11,hk12,hk13,hk14,hk15,hk16,hk17,hk18,_⟩:=hk
 obtain ⟨m,e0,e1,e2,e3,e4,b0,b1,b2,b3⟩:=cv (d0:=E 0) (d1:=E 1) (d2:=E 2) (d3:=E 3) (d4:=E 4) hk0 hk1 hk2 hk3 hk4
 obtain ⟨f,e5,e6,e7,e8,e9,e10,e11,e12,e13,e14,e15,e16,e17,e18,b16⟩:=ja (d0:=E 5) (d1:=E 6) (d2:=E 7) (d3:=E 8) (d4:=E 9) (d5:=E 10) (d6:=E 11) (d7:=E 12) (d8:=E 13) (d9:=E 14) (d10:=E 15) (d11:=E 16) (d12:=E 17) (d13:=E 18) hk5 hk6 hk7 hk8 hk9 hk10 hk11 hk12 hk13 hk14 hk15 hk16 hk17 hk18
 have el : aH E d43.sig.ins.length=[au m.slots,af m.heads,af m.free,af m.ae,.i m.now,.i f.c.kind,.i f.c.k.a,.i f.c.k.b,.i f.c.time,.i f.c.bucket,.i f.c.slot,.i f.pc,.i f.cur,.i f.prev,.i f.slot,.i f.n,bS f.keys,.b f.done,.i f.e]:=by
  show [E 0,E 1,E 2,E 3,E 4,E 5,E 6,E 7,E 8,E 9,E 10,E 11,E 12,E 13,E 14,E 15,E 16,E 17,E 18]=_
  rw [e0,e1,e2,e3,e4,e5,e6,e7,e8,e9,e10,e11,e12,e13,e14,e15,e16,e17,e18]
 rw [el] at hp
 rw [el]
 rw [Env.bJ el]
 clear el e0 e1 e2 e3 e4 e5 e6 e7 e8 e9 e10 e11 e12 e13 e14 e15 e16 e17 e18
 unfold t43
 have hc : d43.fn [au m.slots,af m.heads,af m.free,af m.ae,.i m.now,.i f.c.kind,.i f.c.k.a,.i f.c.k.b,.i f.c.time,.i f.c.bucket,.i f.c.slot,.i f.pc,.i f.cur,.i f.prev,.i f.slot,.i f.n,bS f.keys,.b f.done,.i f.e]=[.i (eO m f)]:=by
  simp only [d43,mem_of,aA,List.drop_succ_cons,List.drop_zero,dJ]
 rw [hc]
 refine ai d40 [.i (bf m f.c)] rfl trivial ?_ ?_
 ·simp only [nrm,xdn,reduceIte,Nat.reduceLT,Nat.reduceSub,Nat.reduceAdd,d40,mem_of,aA,fG,cz,List.drop_succ_cons,List.drop_zero]
 unfold eO
 repeat' (first | refine G0 (fun h=>?_) (fun h=>?_) | refine G1 ?_ ?_ | refine aj ?_)
 all_goals
  simp only [nrm,xdn,reduceIte,Nat.reduceLT,Nat.reduceSub,Nat.reduceAdd,aN,aw,bX,Bool.not_eq_true',Bool.not_eq_false',not_false_eq_true] at *
  first
   | omega
   | (repeat (first | rw [if_pos (by omega)] | rw [if_neg (by omega)] | rw [if_pos (by assumption)] | rw [if_neg (by simp [*])]))
def s97 : Sig:=⟨[.agg [.int .i64,.int .i64],.one (.int .i64)],[.one (.int .i64),.one (.int .i64)]⟩
def d97 : DC:=⟨s97,fun _=>True,fun l=>[.i (aY (Key.of l) (l.getD 2 .u).int).1,.i (aY (Key.of l) (l.getD 2 .u).int).2]⟩
theorem uQ {a b : Int} (h1 : 0≤a) (h2 : a≤15) (h3 : 0≤b) (h4 : b≤15) : 0≤a * b∧a * b≤225:=by
 have:=Int.mul_nonneg h1 h3
 have h5 : a * b≤15 * 15:=Int.mul_le_mul h2 h4 h3 (by omega)
 omega
def l97 : List (Nat × Ct):=[(52,d52.ct)]
def z97 : Cx:={ T:=ttA,C:=sigs l97,F:=[],hints:=[],sig:=s97}
def t97 : Tree :=
 (.call 52 [.var 0,.var 1] 3
 (.ite (.not (.eq (.var 3) (.int 0)))
 (.ret [.int 0,.var 3])
 (.ite (.lt (.var 2) (.int 1))
 (.ret [.int 0,.int 3])
 (.ite (.lt (.int 4) (.var 2))
 (.ret [.int 0,.int 3])
 (.need (.fit (.mul (.var 0) (.int 7)))
 (.need (.fit (.mul (.var 1) (.int 3)))
 (.need (.fit (.add (.mul (.var 0) (.int 7)) (.mul (.var 1) (.int 3))))
 (.need (.fit (.mul (.var 0) (.var 1)))
 (.need (.fit (.add (.add (.mul (.var 0) (.int 7)) (.mul (.var 1) (.int 3))) (.mul (.var 0) (.var 1))))
 (.need (.not (.eq (.var 2) (.int 0)))
 (.ret [.tmod (.add (.add (.mul (.var 0) (.int 7)) (.mul (.var 1) (.int 3))) (.mul (.var 0) (.var 1))) (.var 2),.int 0])))))))))))
theorem run97 : run z97 6000 [.code (Try.f97.body.getD .skip),.fin (bt z97 Try.f97.results.toList 50)] { fn:=97,tmps:=z97.sig.aM ++ List.replicate (Try.f97.ntmps - z97.sig.aM.length) (.v (.one .undef)),stk:=[],h:=z97.sig.h0,nx:=z97.sig.ins.length,known:=[]}=t97:=by kernel_rfl
theorem ok97 : cB Try.prog 97 d97.ct:=by
 refine aD (d:=d97) (Z:=z97) (Γ:=gam l97) (fn:=Try.f97) (c:=Try.f97.body.getD .skip) (bg tok mixed (all_cons ok52 all_nil) bh) Try.func97 (by kernel_rfl) (by kernel_rfl) rfl run97 fun E hk hp=>?_
 obtain ⟨hk0,hk1,hk2,_⟩:=hk
 obtain ⟨k,e0,e1⟩:=vM (d0:=E 0) (d1:=E 1) hk0 hk1
 obtain ⟨x,e2⟩:=ok_int (d:=E 2) hk2
 have el : aH E d97.sig.ins.length=[.i k.a,.i k.b,.i x]:=by
  show [E 0,E 1,E 2]=_
  rw [e0,e1,e2]
 rw [el] at hp
 rw [el]
 rw [Env.bJ el]
 clear el e0 e1 e2
 unfold t97
 have hc : d97.fn [.i k.a,.i k.b,.i x]=[.i (aY k x).1,.i (aY k x).2]:=by
  simp only [d97,jK,eZ,List.getD_cons_succ,List.getD_cons_zero,CD.aR]
 rw [hc]
 refine ai d52 [.i (checkKey k)] rfl trivial ?_ ?_
 ·simp only [nrm,xdn,reduceIte,Nat.reduceLT,Nat.reduceSub,Nat.reduceAdd,d52,jK,eZ]
 refine G0 (fun h=>?_) (fun h=>?_)
 ·simp only [nrm,xdn,reduceIte,Nat.reduceLT,Nat.reduceSub,Nat.reduceAdd,checkKey,Bool.not_eq_true'] at h
  have hk : ¬ Key.Ok k:=fun hk=>by rw [if_pos hk] at h;exact h rfl
  refine aj ?_
  simp only [nrm,xdn,reduceIte,Nat.reduceLT,Nat.reduceSub,Nat.reduceAdd,checkKey,aY,if_neg hk]
 ·simp only [nrm,xdn,reduceIte,Nat.reduceLT,Nat.reduceSub,Nat.reduceAdd,checkKey,Bool.not_eq_false'] at h
  have hk : Key.Ok k:=Decidable.byContradiction fun hk=>by rw [if_neg hk] at h;cases h
  have hb:=uQ hk.1 hk.2.1 hk.2.2.1 hk.2.2.2
  obtain ⟨k1,k2,k3,k4⟩:=id hk
  unfold aY
  rw [if_pos hk]
  repeat' (first | refine G0 (fun h=>?_) (fun h=>?_) | refine G1 ?_ ?_ | refine ag ?_ ?_ | refine aj ?_)
  all_goals simp only [nrm,xdn,reduceIte,Nat.reduceLT,Nat.reduceSub,Nat.reduceAdd,Bool.not_eq_true'] at *
  all_goals first
   | omega
   | (rw [if_pos (by omega)])
   | (rw [if_neg (by omega)])
def s48 : Sig:=⟨[.agg [.fz kS,.fz kI,.fz kI,.fz kI,.int .i64],.agg [.int .i64,.int .i64,.int .i64,.int .i64,.int .i64,.int .i64]],[.one (.int .i64)]⟩
def d48 : DC:=⟨s48,fun _=>True,fun l=>[.i (aa (Mem.of l) (Cal.of (l.drop 5)))]⟩
def l48 : List (Nat × Ct):=[(97,d97.ct)]
def z48 : Cx:={ T:=ttA,C:=sigs l48,F:=[],hints:=[],sig:=s48}
def t48 : Tree :=
 (.ite (.eq (.var 5) (.int 4))
 (.ret [.var 9])
 (.ite (.eq (.var 5) (.int 5))
 (.ret [.var 9])
 (.call 97 [.var 6,.var 7,.len (.var 1)] 11
 (.ret [.var 11]))))
theorem run48 : run z48 6000 [.code (Try.f48.body.getD .skip),.fin (bt z48 Try.f48.results.toList 50)] { fn:=48,tmps:=z48.sig.aM ++ List.replicate (Try.f48.ntmps - z48.sig.aM.length) (.v (.one .undef)),stk:=[],h:=z48.sig.h0,nx:=z48.sig.ins.length,known:=[]}=t48:=by kernel_rfl
theorem ok48 : cB Try.prog 48 d48.ct:=by
 refine aD (d:=d48) (Z:=z48) (Γ:=gam l48) (fn:=Try.f48) (c:=Try.f48.body.getD .skip) (bg tok mixed (all_cons ok97 all_nil) bh) Try.func48 (by kernel_rfl) (by kernel_rfl) rfl run48 fun E hk hp=>?_
 obtain ⟨hk0,hk1,hk2,hk3,hk4,hk5,hk6,hk7,hk8,hk9,hk10,_⟩:=hk
 obtain ⟨m,e0,e1,e2,e3,e4,b0,b1,b2,b3⟩:=cv (d0:=E 0) (d1:=E 1) (d2:=E 2) (d3:=E 3) (d4:=E 4) hk0 hk1 hk2 hk3 hk4
 obtain ⟨c,e5,e6,e7,e8,e9,e10⟩:=kR (d0:=E 5) (d1:=E 6) (d2:=E 7) (d3:=E 8) (d4:=E 9) (d5:=E 10) hk5 hk6 hk7 hk8 hk9 hk10
 have el : aH E d48.sig.ins.length=[au m.slots,af m.heads,af m.free,af m.ae,.i m.now,.i c.kind,.i c.k.a,.i c.k.b,.i c.time,.i c.bucket,.i c.slot]:=by
  show [E 0,E 1,E 2,E 3,E 4,E 5,E 6,E 7,E 8,E 9,E 10]=_
  rw [e0,e1,e2,e3,e4,e5,e6,e7,e8,e9,e10]
 rw [el] at hp
 rw [el]
 rw [Env.bJ el]
 clear el e0 e1 e2 e3 e4 e5 e6 e7 e8 e9 e10
 unfold t48
 have hc : d48.fn [au m.slots,af m.heads,af m.free,af m.ae,.i m.now,.i c.kind,.i c.k.a,.i c.k.b,.i c.time,.i c.bucket,.i c.slot]=[.i (aa m c)]:=by
  simp only [d48,mem_of,aA,List.drop_succ_cons,List.drop_zero,fG,cz]
 rw [hc]
 unfold aa
 refine G0 (fun h=>?_) (fun h=>G0 (fun h'=>?_) (fun h'=>?_))
 ·simp only [nrm,xdn,reduceIte,Nat.reduceLT,Nat.reduceSub,Nat.reduceAdd] at h
  rw [if_pos (.inl h)]
  refine aj ?_
  simp only [nrm,xdn,reduceIte,Nat.reduceLT,Nat.reduceSub,Nat.reduceAdd]
 ·simp only [nrm,xdn,reduceIte,Nat.reduceLT,Nat.reduceSub,Nat.reduceAdd] at h'
  rw [if_pos (.inr h')]
  refine aj ?_
  simp only [nrm,xdn,reduceIte,Nat.reduceLT,Nat.reduceSub,Nat.reduceAdd]
 ·simp only [nrm,xdn,reduceIte,Nat.reduceLT,Nat.reduceSub,Nat.reduceAdd] at h h'
  rw [if_neg (by omega)]
  refine ai d97 [.i (aY c.k m.heads.length).1,.i (aY c.k m.heads.length).2] rfl trivial ?_ (aj ?_)
  ·simp only [nrm,xdn,reduceIte,Nat.reduceLT,Nat.reduceSub,Nat.reduceAdd,d97,jK,eZ,aw]
  ·simp only [nrm,xdn,reduceIte,Nat.reduceLT,Nat.reduceSub,Nat.reduceAdd]
end Go.Proofs.Ytpmamacjepcdmaa

namespace Go.Proofs.Ytpmamacjepcdmaa
open Go Go.Sy Go.RowKit
set_option linter.unusedSimpArgs false
set_option linter.unusedVariables false
abbrev wG (ns nh : Nat) (n : Int) : Prop:=n≤ns∧-(nh : Int)≤n
def gb (ns nh : Nat) (s : bp) : Int:=if s.refs < 0∨1000 < s.refs∨s.till < 0∨2000000 < s.till then 3 else if checkKey s.k≠0 then 3 else if wG ns nh s.next then 0 else 5
def Hq (ns nh : Nat) : List bp→Int
 | []=>0
 | s :: l=>if gb ns nh s≠0 then gb ns nh s else Hq ns nh l
def gw (ns nh : Nat) (h k : Int) : Int:=if h=0 then 5 else if wG ns nh h then (if k < -1∨5≤k then 3 else 0) else 5
def cV (ns nh : Nat) : List Int→List Int→Int
 | h :: l,k :: m=>if gw ns nh h k≠0 then gw ns nh h k else cV ns nh l m
 | _,_=>0
def bD (slots : List bp) : List Int→List Bool→Int × List Bool
 | [],seen=>(0,seen)
 | k :: l,seen=>if k < 0∨slots.length≤k then (5,seen) else if (slots.getD k.toNat default).refs≠0 then (5,seen) else if seen.getD k.toNat false=true then (6,seen) else bD slots l (seen.set k.toNat true)
def Hv : List bp→List Bool→Int
 | s :: l,b :: m=>if s.refs=0∧b=false then 4 else Hv l m
 | _,_=>0
def cP (m : Mem) : Int :=
 if 12 < m.slots.length∨m.heads.length < 1∨4 < m.heads.length then 2
 else if m.ae.length≠m.heads.length then 4
 else if m.now < 0∨1000000 < m.now then 3
 else if Hq m.slots.length m.heads.length m.slots≠0 then Hq m.slots.length m.heads.length m.slots
 else if cV m.slots.length m.heads.length m.heads m.ae≠0 then cV m.slots.length m.heads.length m.heads m.ae
 else if (bD m.slots m.free (List.replicate m.slots.length false)).1≠0 then (bD m.slots m.free (List.replicate m.slots.length false)).1
 else Hv m.slots (bD m.slots m.free (List.replicate m.slots.length false)).2
theorem iA (slots : List bp) : ∀ (l : List Int) (seen : List Bool),(bD slots l seen).2.length=seen.length
 | [],_=>rfl
 | k :: l,seen=>by
  simp only [bD]
  split
  ·rfl
  ·split
   ·rfl
   ·split
    ·rfl
    ·rw [iA slots l];simp
theorem um {ns nh : Nat} {l : List bp} {i : Nat} (h : i < l.length) : Hq ns nh (l.drop i)=if gb ns nh (l.getD i default)≠0 then gb ns nh (l.getD i default) else Hq ns nh (l.drop (i + 1)):=by
 rw [dL h];rfl
theorem uu {ns nh : Nat} {l m : List Int} {i : Nat} (h : i < l.length) (h' : i < m.length) : cV ns nh (l.drop i) (m.drop i)=if gw ns nh (l.getD i 0) (m.getD i 0)≠0 then gw ns nh (l.getD i 0) (m.getD i 0) else cV ns nh (l.drop (i + 1)) (m.drop (i + 1)):=by
 rw [dL h,dL h'];rfl
theorem uv {slots : List bp} {l : List Int} {seen : List Bool} {i : Nat} (h : i < l.length) : bD slots (l.drop i) seen=if l.getD i 0 < 0∨slots.length≤l.getD i 0 then (5,seen) else if (slots.getD (l.getD i 0).toNat default).refs≠0 then (5,seen) else if seen.getD (l.getD i 0).toNat false=true then (6,seen) else bD slots (l.drop (i + 1)) (seen.set (l.getD i 0).toNat true):=by
 rw [dL h];rfl
theorem v7 {l : List bp} {m : List Bool} {i : Nat} (h : i < l.length) (h' : i < m.length) : Hv (l.drop i) (m.drop i)=if (l.getD i default).refs=0∧m.getD i false=false then 4 else Hv (l.drop (i + 1)) (m.drop (i + 1)):=by
 rw [dL h,dL h'];rfl
theorem zF (a b : CD) (l : List CD) : Key.of (a :: b :: l)=⟨a.int,b.int⟩:=rfl
def s51 : Sig:=⟨[.agg [.fz kS,.fz kI,.fz kI,.fz kI,.int .i64]],[.one (.int .i64)]⟩
def d51 : DC:=⟨s51,fun _=>True,fun l=>[.i (cP (Mem.of l))]⟩
def l51 : List (Nat × Ct):=[(52,d52.ct),(160,d160.ct)]
def z51 : Cx:={ T:=ttA,C:=sigs l51,F:=[],hints:=[⟨51,8,false,[(46,.lt)],[],[],[],0,0,false⟩,⟨51,16,false,[(83,.lt)],[],[],[],0,0,false⟩,⟨51,25,false,[(118,.lt),(7,.own 4 kB)],[],[],[],0,0,false⟩,⟨51,34,false,[(151,.lt)],[],[],[],0,0,false⟩],sig:=s51}
def t51 : Tree :=
 (.ite (.lt (.int 12) (.len (.var 0)))
 (.ret [.int 2])
 (.ite (.lt (.len (.var 1)) (.int 1))
 (.ret [.int 2])
 (.ite (.lt (.int 4) (.len (.var 1)))
 (.ret [.int 2])
 (.ite (.not (.eq (.len (.var 3)) (.len (.var 1))))
 (.ret [.int 4])
 (.ite (.lt (.var 4) (.int 0))
 (.ret [.int 3])
 (.ite (.lt (.int 1000000) (.var 4))
 (.ret [.int 3])
 (.loop 5 [.int .i64] [.int 0]
 (.ite (.lt (.var 6) (.len (.var 0)))
 (.need (.le (.int 0) (.var 6))
 (.ite (.lt (.cell (.var 0) (.var 6) 0) (.int 0))
 (.ret [.int 3])
 (.ite (.lt (.int 1000) (.cell (.var 0) (.var 6) 0))
 (.ret [.int 3])
 (.ite (.lt (.cell (.var 0) (.var 6) 3) (.int 0))
 (.ret [.int 3])
 (.ite (.lt (.int 2000000) (.cell (.var 0) (.var 6) 3))
 (.ret [.int 3])
 (.call 52 [.cell (.var 0) (.var 6) 1,.cell (.var 0) (.var 6) 2] 7
 (.ite (.not (.eq (.var 7) (.int 0)))
 (.ret [.int 3])
 (.call 160 [.var 0,.var 1,.var 2,.var 3,.var 4,.cell (.var 0) (.var 6) 5] 8
 (.ite (.not (.var 8))
 (.ret [.int 5])
 (.need (.fit (.add (.var 6) (.int 1)))
 (.back 5 [.add (.var 6) (.int 1)])))))))))))
 (.loop 7 [.int .i64] [.int 0]
 (.ite (.lt (.var 8) (.len (.var 1)))
 (.need (.le (.int 0) (.var 8))
 (.ite (.eq (.cell (.var 1) (.var 8) 0) (.int 0))
 (.ret [.int 5])
 (.call 160 [.var 0,.var 1,.var 2,.var 3,.var 4,.cell (.var 1) (.var 8) 0] 9
 (.ite (.not (.var 9))
 (.ret [.int 5])
 (.need (.lt (.var 8) (.len (.var 3)))
 (.ite (.lt (.cell (.var 3) (.var 8) 0) (.int (-1)))
 (.ret [.int 3])
 (.ite (.le (.int 5) (.cell (.var 3) (.var 8) 0))
 (.ret [.int 3])
 (.need (.fit (.add (.var 8) (.int 1)))
 (.back 7 [.add (.var 8) (.int 1)])))))))))
 (.need (.le (.len (.var 0)) (.int 140737488355328))
 (.loop 9 [.sl 1 [.bool],.int .i64] [.rep (.len (.var 0)) (.cons (.bool false) .row0),.int 0]
 (.ite (.lt (.var 11) (.len (.var 2)))
 (.need (.le (.int 0) (.var 11))
 (.ite (.lt (.cell (.var 2) (.var 11) 0) (.int 0))
 (.ret [.int 5])
 (.ite (.le (.len (.var 0)) (.cell (.var 2) (.var 11) 0))
 (.ret [.int 5])
 (.need (.le (.int 0) (.cell (.var 2) (.var 11) 0))
 (.need (.lt (.cell (.var 2) (.var 11) 0) (.len (.var 0)))
 (.ite (.not (.eq (.cell (.var 0) (.cell (.var 2) (.var 11) 0) 0) (.int 0)))
 (.ret [.int 5])
 (.need (.lt (.cell (.var 2) (.var 11) 0) (.len (.var 10)))
 (.ite (.cell (.var 10) (.cell (.var 2) (.var 11) 0) 0)
 (.ret [.int 6])
 (.need (.fit (.add (.var 11) (.int 1)))
 (.back 9 [.set (.var 10) (.cell (.var 2) (.var 11) 0) 0 (.bool true),.add (.var 11) (.int 1)]))))))))))
 (.loop 12 [.int .i64] [.int 0]
 (.ite (.lt (.var 13) (.len (.var 0)))
 (.need (.le (.int 0) (.var 13))
 (.ite (.eq (.cell (.var 0) (.var 13) 0) (.int 0))
 (.need (.lt (.var 13) (.len (.var 10)))
 (.ite (.not (.cell (.var 10) (.var 13) 0))
 (.ret [.int 4])
 (.need (.fit (.add (.var 13) (.int 1)))
 (.back 12 [.add (.var 13) (.int 1)]))))
 (.need (.fit (.add (.var 13) (.int 1)))
 (.back 12 [.add (.var 13) (.int 1)]))))
 (.ret [.int 0]))))))))))))))))
theorem run51 : run z51 6000 [.code (Try.f51.body.getD .skip),.fin (bt z51 Try.f51.results.toList 50)] { fn:=51,tmps:=z51.sig.aM ++ List.replicate (Try.f51.ntmps - z51.sig.aM.length) (.v (.one .undef)),stk:=[],h:=z51.sig.h0,nx:=z51.sig.ins.length,known:=[]}=t51:=by kernel_rfl
theorem ok51 : cB Try.prog 51 d51.ct:=by
 refine aD (d:=d51) (Z:=z51) (Γ:=gam l51) (fn:=Try.f51) (c:=Try.f51.body.getD .skip) (bg tok mixed (all_cons ok52 (all_cons ok160 all_nil)) bh) Try.func51 (by kernel_rfl) (by kernel_rfl) rfl run51 fun E hk hp=>?_
 obtain ⟨hk0,hk1,hk2,hk3,hk4,_⟩:=hk
 obtain ⟨m,e0,e1,e2,e3,e4,b0,b1,b2,b3⟩:=cv (d0:=E 0) (d1:=E 1) (d2:=E 2) (d3:=E 3) (d4:=E 4) hk0 hk1 hk2 hk3 hk4
 have el : aH E d51.sig.ins.length=[au m.slots,af m.heads,af m.free,af m.ae,.i m.now]:=by
  show [E 0,E 1,E 2,E 3,E 4]=_
  rw [e0,e1,e2,e3,e4]
 rw [el] at hp
 rw [el]
 rw [Env.bJ el]
 clear el e0 e1 e2 e3 e4
 simp only [d51,mem_of,aA]
 unfold t51
 refine G0 (fun h=>?_) (fun h1=>G0 (fun h=>?_) (fun h2=>G0 (fun h=>?_) (fun h3=>G0 (fun h=>?_) (fun h4=>G0 (fun h=>?_) (fun h5=>G0 (fun h=>?_) (fun h6=>?_))))))
 case refine_1 | refine_2 | refine_3 | refine_4 | refine_5 | refine_6 =>
  refine aj ?_
  simp only [nrm,xdn,reduceIte,Nat.reduceLT,Nat.reduceSub,Nat.reduceAdd,aN,aw,Bool.not_eq_true',Bool.not_eq_false'] at *
  unfold cP
  repeat (first | rw [if_pos (by omega)] | rw [if_neg (by omega)])
 simp only [nrm,xdn,reduceIte,Nat.reduceLT,Nat.reduceSub,Nat.reduceAdd,aN,aw,Bool.not_eq_true',Bool.not_eq_false'] at h1 h2 h3 h4 h5 h6
 unfold cP
 rw [if_neg (by omega),if_neg (by omega),if_neg (by omega)]
 have hl : m.ae.length=m.heads.length:=by omega
 refine bO (fun ds=>∃ i : Nat,ds=[.i i]∧i≤m.slots.length∧Hq m.slots.length m.heads.length m.slots=Hq m.slots.length m.heads.length (m.slots.drop i)) (fun ds=>m.slots.length - (ds.getD 0 .u).int.toNat) ⟨0,rfl,by omega,rfl⟩ ?_
 rintro ds - ⟨i,rfl,hi,ht⟩
 refine G0 (fun hlt=>?_) (fun hge=>?_)
 ·simp only [nrm,xdn,reduceIte,Nat.reduceLT,Nat.reduceSub,Nat.reduceAdd,aN] at hlt
  have hs:=um (ns:=m.slots.length) (nh:=m.heads.length) (l:=m.slots) (i:=i) (by omega)
  refine ag (by simp only [nrm,xdn,reduceIte,Nat.reduceLT,Nat.reduceSub,Nat.reduceAdd];omega) ?_
  have bad : ∀ e : Int,e≠0→gb m.slots.length m.heads.length (m.slots.getD i default)=e→[CD.i e]=[CD.i (if Hq m.slots.length m.heads.length m.slots≠0 then Hq m.slots.length m.heads.length m.slots else if cV m.slots.length m.heads.length m.heads m.ae≠0 then cV m.slots.length m.heads.length m.heads m.ae
    else if (bD m.slots m.free (List.replicate m.slots.length false)).1≠0 then (bD m.slots m.free (List.replicate m.slots.length false)).1 else Hv m.slots (bD m.slots m.free (List.replicate m.slots.length false)).2)]:=fun e he hx=>by
   have : Hq m.slots.length m.heads.length m.slots=e:=by rw [ht,hs,hx,if_pos he]
   rw [this,if_pos he]
  refine G0 (fun c1=>aj ?_) (fun c1=>G0 (fun c2=>aj ?_) (fun c2=>G0 (fun c3=>aj ?_) (fun c3=>G0 (fun c4=>aj ?_) (fun c4=>?_))))
  case refine_1 | refine_2 | refine_3 | refine_4 =>
   simp only [nrm,xdn,reduceIte,Nat.reduceLT,Nat.reduceSub,Nat.reduceAdd,Int.toNat_natCast,cX,cy] at *
   exact bad 3 (by decide) (by unfold gb;rw [if_pos (by omega)])
  simp only [nrm,xdn,reduceIte,Nat.reduceLT,Nat.reduceSub,Nat.reduceAdd,Int.toNat_natCast,cX,cy] at c1 c2 c3 c4
  refine ai d52 [.i (checkKey (m.slots.getD i default).k)] rfl trivial (by simp only [nrm,xdn,reduceIte,Nat.reduceLT,Nat.reduceSub,Nat.reduceAdd,d52,zF,cG,cF,eZ,Int.toNat_natCast]) (G0 (fun c5=>aj ?_) (fun c5=>?_))
  ·simp only [nrm,xdn,reduceIte,Nat.reduceLT,Nat.reduceSub,Nat.reduceAdd,Bool.not_eq_true'] at c5
   exact bad 3 (by decide) (by unfold gb;rw [if_neg (by omega),if_pos c5])
  simp only [nrm,xdn,reduceIte,Nat.reduceLT,Nat.reduceSub,Nat.reduceAdd,Bool.not_eq_false'] at c5
  refine ai d160 [.b (decide (wG m.slots.length m.heads.length (m.slots.getD i default).next))] rfl trivial (by simp only [nrm,xdn,reduceIte,Nat.reduceLT,Nat.reduceSub,Nat.reduceAdd,d160,mem_of,cE,Int.toNat_natCast]) (G0 (fun c6=>aj ?_) (fun c6=>?_))
  ·simp only [nrm,xdn,reduceIte,Nat.reduceLT,Nat.reduceSub,Nat.reduceAdd,Bool.not_eq_true'] at c6
   exact bad 5 (by decide) (by unfold gb;rw [if_neg (by omega),if_neg (by omega),if_neg c6])
  simp only [nrm,xdn,reduceIte,Nat.reduceLT,Nat.reduceSub,Nat.reduceAdd,Bool.not_eq_false'] at c6
  refine G1 (by simp only [nrm,xdn,reduceIte,Nat.reduceLT,Nat.reduceSub,Nat.reduceAdd];omega) (aV ⟨⟨i + 1,?_,by omega,?_⟩,?_⟩)
  ·simp only [nrm,xdn,reduceIte,Nat.reduceLT,Nat.reduceSub,Nat.reduceAdd];rfl
  ·rw [ht,hs,if_neg (fun hx=>hx (by unfold gb;rw [if_neg (by omega),if_neg (by omega),if_pos c6]))]
  ·simp only [nrm,xdn,reduceIte,Nat.reduceLT,Nat.reduceSub,Nat.reduceAdd];omega
 simp only [nrm,xdn,reduceIte,Nat.reduceLT,Nat.reduceSub,Nat.reduceAdd,aN] at hge
 have hS : Hq m.slots.length m.heads.length m.slots=0:=by rw [ht,List.drop_of_length_le (by omega)];rfl
 rw [hS,if_neg (fun h=>h rfl)]
 clear hge ht hi
 refine bO (fun ds=>∃ i : Nat,ds=[.i i]∧i≤m.heads.length∧cV m.slots.length m.heads.length m.heads m.ae=cV m.slots.length m.heads.length (m.heads.drop i) (m.ae.drop i)) (fun ds=>m.heads.length - (ds.getD 0 .u).int.toNat) ⟨0,rfl,by omega,rfl⟩ ?_
 rintro ds - ⟨j,rfl,hj,ht⟩
 refine G0 (fun hlt=>?_) (fun hge=>?_)
 ·simp only [nrm,xdn,reduceIte,Nat.reduceLT,Nat.reduceSub,Nat.reduceAdd,aw] at hlt
  have hs:=uu (ns:=m.slots.length) (nh:=m.heads.length) (l:=m.heads) (m:=m.ae) (i:=j) (by omega) (by omega)
  refine ag (by simp only [nrm,xdn,reduceIte,Nat.reduceLT,Nat.reduceSub,Nat.reduceAdd];omega) ?_
  have bad : ∀ e : Int,e≠0→gw m.slots.length m.heads.length (m.heads.getD j 0) (m.ae.getD j 0)=e→[CD.i e]=[CD.i (if cV m.slots.length m.heads.length m.heads m.ae≠0 then cV m.slots.length m.heads.length m.heads m.ae
    else if (bD m.slots m.free (List.replicate m.slots.length false)).1≠0 then (bD m.slots m.free (List.replicate m.slots.length false)).1 else Hv m.slots (bD m.slots m.free (List.replicate m.slots.length false)).2)]:=fun e he hx=>by
   have : cV m.slots.length m.heads.length m.heads m.ae=e:=by rw [ht,hs,hx,if_pos he]
   rw [this,if_pos he]
  refine G0 (fun c1=>aj ?_) (fun c1=>?_)
  ·simp only [nrm,xdn,reduceIte,Nat.reduceLT,Nat.reduceSub,Nat.reduceAdd,Int.toNat_natCast,aG] at c1
   exact bad 5 (by decide) (by unfold gw;rw [if_pos c1])
  simp only [nrm,xdn,reduceIte,Nat.reduceLT,Nat.reduceSub,Nat.reduceAdd,Int.toNat_natCast,aG] at c1
  refine ai d160 [.b (decide (wG m.slots.length m.heads.length (m.heads.getD j 0)))] rfl trivial (by simp only [nrm,xdn,reduceIte,Nat.reduceLT,Nat.reduceSub,Nat.reduceAdd,d160,mem_of,aG,Int.toNat_natCast]) (G0 (fun c6=>aj ?_) (fun c6=>?_))
  ·simp only [nrm,xdn,reduceIte,Nat.reduceLT,Nat.reduceSub,Nat.reduceAdd,Bool.not_eq_true'] at c6
   exact bad 5 (by decide) (by unfold gw;rw [if_neg c1,if_neg c6])
  simp only [nrm,xdn,reduceIte,Nat.reduceLT,Nat.reduceSub,Nat.reduceAdd,Bool.not_eq_false'] at c6
  refine ag (by simp only [nrm,xdn,reduceIte,Nat.reduceLT,Nat.reduceSub,Nat.reduceAdd,aw];omega) (G0 (fun c2=>aj ?_) (fun c2=>G0 (fun c3=>aj ?_) (fun c3=>?_)))
  case refine_1 | refine_2 =>
   simp only [nrm,xdn,reduceIte,Nat.reduceLT,Nat.reduceSub,Nat.reduceAdd,Int.toNat_natCast,aG] at *
   exact bad 3 (by decide) (by unfold gw;rw [if_neg c1,if_pos c6,if_pos (by omega)])
  simp only [nrm,xdn,reduceIte,Nat.reduceLT,Nat.reduceSub,Nat.reduceAdd,Int.toNat_natCast,aG] at c2 c3
  refine G1 (by simp only [nrm,xdn,reduceIte,Nat.reduceLT,Nat.reduceSub,Nat.reduceAdd];omega) (aV ⟨⟨j + 1,?_,by omega,?_⟩,?_⟩)
  ·simp only [nrm,xdn,reduceIte,Nat.reduceLT,Nat.reduceSub,Nat.reduceAdd];rfl
  ·rw [ht,hs,if_neg (fun hx=>hx (by unfold gw;rw [if_neg c1,if_pos c6,if_neg (by omega)]))]
  ·simp only [nrm,xdn,reduceIte,Nat.reduceLT,Nat.reduceSub,Nat.reduceAdd];omega
 simp only [nrm,xdn,reduceIte,Nat.reduceLT,Nat.reduceSub,Nat.reduceAdd,aw] at hge
 have hH : cV m.slots.length m.heads.length m.heads m.ae=0:=by rw [ht,List.drop_of_length_le (by omega),List.drop_of_length_le (by omega)];rfl
 rw [hH,if_neg (fun h=>h rfl)]
 clear hge ht hj
 refine ag (by simp only [nrm,xdn,reduceIte,Nat.reduceLT,Nat.reduceSub,Nat.reduceAdd,aN];omega) ?_
 refine bO (fun ds=>∃ (seen : List Bool) (i : Nat),ds=[mL seen,.i i]∧seen.length=m.slots.length∧i≤m.free.length∧bD m.slots m.free (List.replicate m.slots.length false)=bD m.slots (m.free.drop i) seen) (fun ds=>m.free.length - (ds.getD 1 .u).int.toNat)
  ⟨List.replicate m.slots.length false,0,?_,by simp,by omega,rfl⟩ ?_
 ·simp only [nrm,xdn,reduceIte,Nat.reduceLT,Nat.reduceSub,Nat.reduceAdd,aN,Int.toNat_natCast,CD.row,List.headD_cons,BN];rfl
 rintro ds - ⟨seen,n,rfl,hn,hi,ht⟩
 refine G0 (fun hlt=>?_) (fun hge=>?_)
 ·simp only [nrm,xdn,reduceIte,Nat.reduceLT,Nat.reduceSub,Nat.reduceAdd,aw] at hlt
  have hs:=uv (slots:=m.slots) (l:=m.free) (seen:=seen) (i:=n) (by omega)
  refine ag (by simp only [nrm,xdn,reduceIte,Nat.reduceLT,Nat.reduceSub,Nat.reduceAdd];omega) ?_
  have bad : ∀ e : Int,e≠0→bD m.slots (m.free.drop n) seen=(e,seen)→[CD.i e]=[CD.i (if (bD m.slots m.free (List.replicate m.slots.length false)).1≠0 then (bD m.slots m.free (List.replicate m.slots.length false)).1 else Hv m.slots (bD m.slots m.free (List.replicate m.slots.length false)).2)]:=fun e he hx=>by
   rw [ht,hx,if_pos he]
  refine G0 (fun c1=>aj ?_) (fun c1=>G0 (fun c2=>aj ?_) (fun c2=>?_))
  case refine_1 | refine_2 =>
   simp only [nrm,xdn,reduceIte,Nat.reduceLT,Nat.reduceSub,Nat.reduceAdd,Int.toNat_natCast,aG,aN] at *
   exact bad 5 (by decide) (by rw [hs,if_pos (by omega)])
  simp only [nrm,xdn,reduceIte,Nat.reduceLT,Nat.reduceSub,Nat.reduceAdd,Int.toNat_natCast,aG,aN] at c1 c2
  refine ag (by simp only [nrm,xdn,reduceIte,Nat.reduceLT,Nat.reduceSub,Nat.reduceAdd,Int.toNat_natCast,aG];omega) (ag (by simp only [nrm,xdn,reduceIte,Nat.reduceLT,Nat.reduceSub,Nat.reduceAdd,Int.toNat_natCast,aG,aN];omega) (G0 (fun c3=>aj ?_) (fun c3=>?_)))
  ·simp only [nrm,xdn,reduceIte,Nat.reduceLT,Nat.reduceSub,Nat.reduceAdd,Int.toNat_natCast,aG,cX,Bool.not_eq_true'] at c3
   exact bad 5 (by decide) (by rw [hs,if_neg (by omega),if_pos c3])
  simp only [nrm,xdn,reduceIte,Nat.reduceLT,Nat.reduceSub,Nat.reduceAdd,Int.toNat_natCast,aG,cX,Bool.not_eq_false'] at c3
  refine ag (by simp only [nrm,xdn,reduceIte,Nat.reduceLT,Nat.reduceSub,Nat.reduceAdd,Int.toNat_natCast,aG,uZ];omega) (G0 (fun c4=>aj ?_) (fun c4=>?_))
  ·simp only [nrm,xdn,reduceIte,Nat.reduceLT,Nat.reduceSub,Nat.reduceAdd,Int.toNat_natCast,aG,nu] at c4
   exact bad 6 (by decide) (by rw [hs,if_neg (by omega),if_neg (fun h=>h c3),if_pos c4])
  simp only [nrm,xdn,reduceIte,Nat.reduceLT,Nat.reduceSub,Nat.reduceAdd,Int.toNat_natCast,aG,nu] at c4
  refine G1 (by simp only [nrm,xdn,reduceIte,Nat.reduceLT,Nat.reduceSub,Nat.reduceAdd];omega) (aV ⟨⟨seen.set (m.free.getD n 0).toNat true,n + 1,?_,by simp [hn],by omega,?_⟩,?_⟩)
  ·simp only [nrm,xdn,reduceIte,Nat.reduceLT,Nat.reduceSub,Nat.reduceAdd,Int.toNat_natCast,aG,CY];rfl
  ·rw [ht,hs,if_neg (by omega),if_neg (fun h=>h c3),if_neg (by rw [c4];decide)]
  ·simp only [nrm,xdn,reduceIte,Nat.reduceLT,Nat.reduceSub,Nat.reduceAdd];omega
 simp only [nrm,xdn,reduceIte,Nat.reduceLT,Nat.reduceSub,Nat.reduceAdd,aw] at hge
 have hF : bD m.slots m.free (List.replicate m.slots.length false)=(0,seen):=by rw [ht,List.drop_of_length_le (by omega)];rfl
 rw [hF,if_neg (fun h=>h rfl)]
 clear hge ht hi hF
 refine bO (fun ds=>∃ i : Nat,ds=[.i i]∧i≤m.slots.length∧Hv m.slots seen=Hv (m.slots.drop i) (seen.drop i)) (fun ds=>m.slots.length - (ds.getD 0 .u).int.toNat) ⟨0,rfl,by omega,rfl⟩ ?_
 rintro ds - ⟨q,rfl,hq,ht⟩
 refine G0 (fun hlt=>?_) (fun hge=>?_)
 ·simp only [nrm,xdn,reduceIte,Nat.reduceLT,Nat.reduceSub,Nat.reduceAdd,aN] at hlt
  have hs:=v7 (l:=m.slots) (m:=seen) (i:=q) (by omega) (by omega)
  have back : ¬ ((m.slots.getD q default).refs=0∧seen.getD q false=false)→∃ i : Nat,[CD.i ((q : Int) + 1)]=[.i i]∧i≤m.slots.length∧Hv m.slots seen=Hv (m.slots.drop i) (seen.drop i):=fun h=>⟨q + 1,rfl,by omega,by rw [ht,hs,if_neg h]⟩
  refine ag (by simp only [nrm,xdn,reduceIte,Nat.reduceLT,Nat.reduceSub,Nat.reduceAdd];omega) (G0 (fun c1=>?_) (fun c1=>?_))
  ·simp only [nrm,xdn,reduceIte,Nat.reduceLT,Nat.reduceSub,Nat.reduceAdd,Int.toNat_natCast,cX] at c1
   refine ag (by simp only [nrm,xdn,reduceIte,Nat.reduceLT,Nat.reduceSub,Nat.reduceAdd,uZ];omega) (G0 (fun c2=>aj ?_) (fun c2=>?_))
   ·simp only [nrm,xdn,reduceIte,Nat.reduceLT,Nat.reduceSub,Nat.reduceAdd,Int.toNat_natCast,nu,Bool.not_eq_true'] at c2
    simp only [nrm,xdn,reduceIte,Nat.reduceLT,Nat.reduceSub,Nat.reduceAdd]
    rw [ht,hs,if_pos ⟨c1,c2⟩]
   ·simp only [nrm,xdn,reduceIte,Nat.reduceLT,Nat.reduceSub,Nat.reduceAdd,Int.toNat_natCast,nu,Bool.not_eq_false'] at c2
    refine G1 (by simp only [nrm,xdn,reduceIte,Nat.reduceLT,Nat.reduceSub,Nat.reduceAdd];omega) (aV ⟨?_,?_⟩)
    ·simp only [nrm,xdn,reduceIte,Nat.reduceLT,Nat.reduceSub,Nat.reduceAdd]
     exact back fun h=>by rw [h.2] at c2;cases c2
    ·simp only [nrm,xdn,reduceIte,Nat.reduceLT,Nat.reduceSub,Nat.reduceAdd];omega
  ·simp only [nrm,xdn,reduceIte,Nat.reduceLT,Nat.reduceSub,Nat.reduceAdd,Int.toNat_natCast,cX] at c1
   refine G1 (by simp only [nrm,xdn,reduceIte,Nat.reduceLT,Nat.reduceSub,Nat.reduceAdd];omega) (aV ⟨?_,?_⟩)
   ·simp only [nrm,xdn,reduceIte,Nat.reduceLT,Nat.reduceSub,Nat.reduceAdd]
    exact back fun h=>c1 h.1
   ·simp only [nrm,xdn,reduceIte,Nat.reduceLT,Nat.reduceSub,Nat.reduceAdd];omega
 ·simp only [nrm,xdn,reduceIte,Nat.reduceLT,Nat.reduceSub,Nat.reduceAdd,aN] at hge
  refine aj ?_
  simp only [nrm,xdn,reduceIte,Nat.reduceLT,Nat.reduceSub,Nat.reduceAdd]
  rw [ht,List.drop_of_length_le (by omega),List.drop_of_length_le (by omega)]
  rfl
end Go.Proofs.Ytpmamacjepcdmaa

namespace Go.Proofs.Ytpmamacjepcdmaa
open Go Go.Sy Go.RowKit
structure mR (ns nh : Nat) (s : bp) : Prop where
 r0 : 0≤s.refs
 r1 : s.refs≤1000
 t0 : 0≤s.till
 t1 : s.till≤2000000
 k : Key.Ok s.k
 n0 : s.next≤ns
 n1 : -(nh : Int)≤s.next
theorem gA (k : Key) : checkKey k=0↔Key.Ok k:=by
 unfold checkKey
 split
 ·rename_i h;exact ⟨fun _=>h,fun _=>rfl⟩
 ·rename_i h;exact ⟨fun e=>(by cases e),fun e=>absurd e h⟩
theorem wZ {ns nh : Nat} {s : bp} : gb ns nh s=0↔mR ns nh s:=by
 unfold gb
 constructor
 ·intro h
  split at h
  ·cases h
  ·split at h
   ·cases h
   ·rename_i h1 h2
    split at h
    ·rename_i h3
     exact ⟨by omega,by omega,by omega,by omega,(gA _).1 (by omega),h3.1,h3.2⟩
    ·cases h
 ·intro h
  have:=(gA _).2 h.k
  have h0:=h.r0
  have h1:=h.r1
  have h2:=h.t0
  have h3:=h.t1
  rw [if_neg (by omega),if_neg (by omega),if_pos ⟨h.n0,h.n1⟩]
theorem kD {ns nh : Nat} : ∀ {l : List bp},Hq ns nh l=0↔∀ s∈l,mR ns nh s
 | []=>by simp [Hq]
 | s :: l=>by
  have ih:=kD (ns:=ns) (nh:=nh) (l:=l)
  simp only [Hq,List.mem_cons,forall_eq_or_imp,← wZ] at ih ⊢
  split
  ·rename_i h;constructor
   ·intro h';exact absurd h' h
   ·intro h';exact absurd h'.1 h
  ·rename_i h;constructor
   ·intro h';exact ⟨by omega,ih.1 h'⟩
   ·intro h';exact ih.2 h'.2
structure ug (ns nh : Nat) (h k : Int) : Prop where
 h0 : h≠0
 n0 : h≤ns
 n1 : -(nh : Int)≤h
 k0 : -1≤k
 k1 : k < 5
theorem re {ns nh : Nat} {h k : Int} : gw ns nh h k=0↔ug ns nh h k:=by
 unfold gw
 constructor
 ·intro e
  split at e
  ·cases e
  ·split at e
   ·rename_i h1 h2
    split at e
    ·cases e
    ·exact ⟨h1,h2.1,h2.2,by omega,by omega⟩
   ·cases e
 ·intro h
  have h3:=h.k0
  have h4:=h.k1
  rw [if_neg h.h0,if_pos ⟨h.n0,h.n1⟩,if_neg (by omega)]
theorem lg {ns nh : Nat} : ∀ {l m : List Int},m.length=l.length→(cV ns nh l m=0↔∀ i,i < l.length→ug ns nh (l.getD i 0) (m.getD i 0))
 | [],_,_=>by simp [cV]
 | h :: l,[],e=>by simp at e
 | h :: l,k :: m,e=>by
  have ih:=lg (ns:=ns) (nh:=nh) (l:=l) (m:=m) (by simpa using e)
  simp only [cV]
  split
  ·rename_i hx;constructor
   ·intro h';exact absurd h' hx
   ·intro h';exact absurd (re.2 (by simpa using h' 0 (by simp))) hx
  ·rename_i hx
   rw [ih]
   constructor
   ·intro h' i hi
    cases i with
    | zero=>exact re.1 (by simpa using hx)
    | succ i=>simpa using h' i (by simpa using hi)
   ·intro h' i hi
    simpa using h' (i + 1) (by simpa using hi)
theorem gT (l : List Bool) (i j : Nat) (b : Bool) : (l.set i b).getD j false=if i=j∧i < l.length then b else l.getD j false:=by
 simp only [List.getD_eq_getElem?_getD,List.getElem?_set]
 by_cases h : i=j
 ·subst h
  by_cases h' : i < l.length
  ·simp [h']
  ·simp [h']
 ·simp [h]
theorem pB {slots : List bp} : ∀ {l : List Int} {seen : List Bool},seen.length=slots.length→((bD slots l seen).1=0↔(∀ a∈l,0≤a∧a < slots.length∧(slots.getD a.toNat default).refs=0)∧l.Nodup∧∀ a∈l,seen.getD a.toNat false=false)
 | [],_,_=>by simp [bD]
 | k :: l,seen,hs=>by
  have ih:=pB (slots:=slots) (l:=l) (seen:=seen.set k.toNat true) (by simpa using hs)
  simp only [bD]
  split
  ·rename_i h;constructor
   ·intro h';cases h'
   ·intro h';have:=h'.1 k (by simp);omega
  ·rename_i h
   split
   ·rename_i h1;constructor
    ·intro h';cases h'
    ·intro h';exact absurd (h'.1 k (by simp)).2.2 h1
   ·rename_i h1
    split
    ·rename_i h2;constructor
     ·intro h';cases h'
     ·intro h';have:=h'.2.2 k (by simp);rw [h2] at this;cases this
    ·rename_i h2
     rw [ih]
     constructor
     ·rintro ⟨a1,a2,a3⟩
      have hk : k ∉ l:=fun hk=>by
       have:=a3 k hk
       rw [gT,if_pos ⟨rfl,by omega⟩] at this
       cases this
      refine ⟨fun a ha=>?_,List.nodup_cons.2 ⟨hk,a2⟩,fun a ha=>?_⟩
      ·rcases List.mem_cons.1 ha with rfl | ha
       ·exact ⟨by omega,by omega,by omega⟩
       ·exact a1 a ha
      ·rcases List.mem_cons.1 ha with rfl | ha
       ·simpa using h2
       ·have:=a3 a ha
        rw [gT] at this
        split at this
        ·cases this
        ·exact this
     ·rintro ⟨a1,a2,a3⟩
      have a2:=List.nodup_cons.1 a2
      refine ⟨fun a ha=>a1 a (by simp [ha]),a2.2,fun a ha=>?_⟩
      rw [gT,if_neg]
      ·exact a3 a (by simp [ha])
      ·rintro ⟨e,_⟩
       have h3:=a1 a (by simp [ha])
       have : k=a:=by omega
       subst this
       exact a2.1 ha
theorem jL {slots : List bp} : ∀ {l : List Int} {seen : List Bool},seen.length=slots.length→(bD slots l seen).1=0→∀ i,i < slots.length→((bD slots l seen).2.getD i false=true↔seen.getD i false=true∨(i : Int)∈l)
 | [],_,_,_,i,_=>by simp [bD]
 | k :: l,seen,hs,h0,i,hi=>by
  simp only [bD] at h0 ⊢
  split at h0
  ·cases h0
  ·rename_i h
   split at h0
   ·cases h0
   ·rename_i h1
    split at h0
    ·cases h0
    ·rename_i h2
     rw [if_neg h,if_neg h1,if_neg h2,jL (by simpa using hs) h0 i hi,gT,List.mem_cons]
     by_cases e : k.toNat=i
     ·have : (i : Int)=k:=by omega
      simp [e,this,hs,hi]
     ·have : (i : Int)≠k:=by omega
      simp [e,this]
theorem mj : ∀ {l : List bp} {m : List Bool},m.length=l.length→(Hv l m=0↔∀ i,i < l.length→(l.getD i default).refs=0→m.getD i false=true)
 | [],_,_=>by simp [Hv]
 | s :: l,[],e=>by simp at e
 | s :: l,b :: m,e=>by
  have ih:=mj (l:=l) (m:=m) (by simpa using e)
  simp only [Hv]
  split
  ·rename_i hx;constructor
   ·intro h';cases h'
   ·intro h'
    have:=h' 0 (by simp) (by simpa using hx.1)
    rw [List.getD_cons_zero,hx.2] at this
    cases this
  ·rename_i hx
   rw [ih]
   constructor
   ·intro h' i hi hr
    cases i with
    | zero =>
     simp only [List.getD_cons_zero] at hr ⊢
     cases b with
     | true=>rfl
     | false=>exact absurd ⟨hr,rfl⟩ hx
    | succ i=>simpa using h' i (by simpa using hi) (by simpa using hr)
   ·intro h' i hi hr
    simpa using h' (i + 1) (by simpa using hi) (by simpa using hr)
def msl (m : Mem) (i : Nat) : bp:=m.slots.getD i default
structure bB (m : Mem) : Prop where
 ns : m.slots.length≤12
 nh1 : 1≤m.heads.length
 nh4 : m.heads.length≤4
 nl : m.ae.length=m.heads.length
 ma : 0≤m.now
 Ik : m.now≤1000000
 slot : ∀ s∈m.slots,mR m.slots.length m.heads.length s
 head : ∀ i,i < m.heads.length→ug m.slots.length m.heads.length (m.heads.getD i 0) (m.ae.getD i 0)
 free : ∀ a∈m.free,0≤a∧a < m.slots.length∧(msl m a.toNat).refs=0
 nodup : m.free.Nodup
 leak : ∀ i,i < m.slots.length→(msl m i).refs=0→(i : Int)∈m.free
theorem dT (m : Mem) : cP m=0↔bB m:=by
 have hsl : (List.replicate m.slots.length false).length=m.slots.length:=by simp
 have hrep : ∀ i,(List.replicate m.slots.length false).getD i false=false:=fun i=>by
  simp only [List.getD_eq_getElem?_getD,List.getElem?_replicate]
  split <;> rfl
 have hF:=pB (slots:=m.slots) (l:=m.free) hsl
 unfold cP
 constructor
 ·intro h
  split at h
  ·cases h
  ·rename_i h1
   split at h
   ·cases h
   ·rename_i h2
    split at h
    ·cases h
    ·rename_i h3
     split at h
     ·rename_i h4;exact absurd h h4
     ·rename_i h4
      split at h
      ·rename_i h5;exact absurd h h5
      ·rename_i h5
       split at h
       ·rename_i h6;exact absurd h h6
       ·rename_i h6
        have h6 : (bD m.slots m.free (List.replicate m.slots.length false)).1=0:=Classical.not_not.1 h6
        obtain ⟨f1,f2,_⟩:=hF.1 h6
        have hL:=(mj (by rw [iA,hsl])).1 h
        refine ⟨by omega,by omega,by omega,by omega,by omega,by omega,kD.1 (Classical.not_not.1 h4),(lg (by omega)).1 (Classical.not_not.1 h5),f1,f2,fun i hi hr=>?_⟩
        have:=(jL hsl h6 i hi).1 (hL i hi hr)
        rw [hrep] at this
        simpa using this
 ·intro h
  have h1:=h.ns
  have h2:=h.nh1
  have h3:=h.nh4
  have h4:=h.nl
  have h5:=h.ma
  have h6:=h.Ik
  have hs:=kD.2 h.slot
  have hh:=(lg h.nl).2 h.head
  have hf:=hF.2 ⟨h.free,h.nodup,fun a _=>hrep _⟩
  rw [if_neg (by omega),if_neg (by omega),if_neg (by omega),hs,if_neg (fun x=>x rfl),hh,if_neg (fun x=>x rfl),hf,if_neg (fun x=>x rfl)]
  refine (mj (by rw [iA,hsl])).2 fun i hi hr=>?_
  exact (jL hsl hf i hi).2 (.inr (h.leak i hi hr))
theorem bB.sl {m : Mem} (h : bB m) {i : Nat} (hi : i < m.slots.length) : mR m.slots.length m.heads.length (msl m i):=by
 refine h.slot _ ?_
 unfold msl
 rw [List.getD_eq_getElem?_getD,List.getElem?_eq_getElem hi,Option.getD_some]
 exact List.getElem_mem hi
end Go.Proofs.Ytpmamacjepcdmaa
