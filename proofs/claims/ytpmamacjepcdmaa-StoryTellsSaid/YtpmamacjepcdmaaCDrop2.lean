import Derived.Test.YtpmamacjepcdmaaCWorld4
import Derived.Test.YtpmamacjepcdmaaCSweep
namespace Go.Proofs.Ytpmamacjepcdmaa
open Go Go.Sy Go.RowKit
set_option linter.unusedSimpArgs false
set_option linter.unusedVariables false
def kys (m : Mem) (a : Int) : Key:=(msl m a.toNat).k
structure Ab (m : Mem) (b : Int) (a : Int) : Prop where
 refs : (msl m a.toNat).refs≠0
 inn : (msl m a.toNat).inn=true
 bk : bk m (kys m a)=b
structure fH (m : Mem) (b : Nat) (l : List Int) : Prop where
 of : cQ m b=some l
 ok : ∀ a∈l,Ab m b a
 nd : (l.map (kys m)).Nodup
structure aK (m : Mem) : Prop where
 mem : bB m
 all : ∀ b : Nat,b < m.heads.length→∃ l,fH m b l
theorem fH.r {m : Mem} {b : Nat} {l : List Int} (h : fH m b l) : (bP m b).1=l:=by unfold bP;rw [h.of]
def chL (m : Mem) (b : Nat) : List Int:=(bP m b).1
theorem aK.ch {m : Mem} (h : aK m) {b : Nat} (hb : b < m.heads.length) : fH m b (chL m b):=by
 obtain ⟨l,hl⟩:=h.all b hb
 have:=hl.r
 unfold chL
 rw [this];exact hl
def s87 : Sig:=⟨[.ptr [.own 52 kS,.own 3 kI,.own 3 kI,.own 3 kI,.int .i64],.one (.int .i64),.one (.int .i64)],[]⟩
def d87 : DC:=⟨s87,fun l=>0≤(l.getD 5 .u).int∧(l.getD 5 .u).int < (Mem.of l).slots.length∧0≤(l.getD 6 .u).int∧(l.getD 6 .u).int < (Mem.of l).heads.length,fun l=>(link (Mem.of l) (l.getD 5 .u).int (l.getD 6 .u).int).cds⟩
theorem fn87 (m : Mem) (a b : Int) : d87.fn [au m.slots,af m.heads,af m.free,af m.locks,.i m.now,.i a,.i b]=(link m a b).cds:=by simp only [d87,mem_of,aA,List.getD_cons_zero,List.getD_cons_succ,CD.aR]
theorem pre87 {m : Mem} {a b : Int} (h1 : 0≤a) (h2 : a < m.slots.length) (h3 : 0≤b) (h4 : b < m.heads.length) : d87.pre [au m.slots,af m.heads,af m.free,af m.locks,.i m.now,.i a,.i b]:=by
 simp only [d87,mem_of,aA,List.getD_cons_zero,List.getD_cons_succ,CD.aR]
 exact ⟨h1,h2,h3,h4⟩
def l87 : List (Nat × Ct):=[]
def z87 : Cx:={ T:=ttA,C:=sigs l87,F:=[],hints:=[],sig:=s87}
def t87 : Tree :=
 (.need (.le (.int 0) (.var 5))
 (.need (.lt (.var 5) (.len (.var 0)))
 (.need (.le (.int 0) (.var 6))
 (.need (.lt (.var 6) (.len (.var 1)))
 (.need (.fit (.add (.var 5) (.int 1)))
 (.ret [.set (.set (.set (.set (.set (.set (.var 0) (.var 5) 0 (.cell (.var 0) (.var 5) 0)) (.var 5) 1 (.cell (.var 0) (.var 5) 1)) (.var 5) 2 (.cell (.var 0) (.var 5) 2)) (.var 5) 3 (.cell (.var 0) (.var 5) 3)) (.var 5) 4 (.bool true)) (.var 5) 5 (.cell (.var 1) (.var 6) 0),.set (.var 1) (.var 6) 0 (.add (.var 5) (.int 1)),.var 2,.var 3,.var 4]))))))
theorem run87 : run z87 6000 [.code (Try.f87.body.getD .skip),.fin (bt z87 Try.f87.results.toList 50)] { fn:=87,tmps:=z87.sig.aM ++ List.replicate (Try.f87.ntmps - z87.sig.aM.length) (.v (.one .undef)),stk:=[],h:=z87.sig.h0,nx:=z87.sig.ins.length,known:=[]}=t87:=by kernel_rfl
theorem ok87 : cB Try.prog 87 d87.ct:=by
 refine aD (d:=d87) (Z:=z87) (Γ:=gam l87) (fn:=Try.f87) (c:=Try.f87.body.getD .skip) (bg tok mixed all_nil bh) Try.func87 (by kernel_rfl) (by kernel_rfl) rfl run87 fun E hk hp=>?_
 obtain ⟨hk0,hk1,hk2,hk3,hk4,hk5,hk6,_⟩:=hk
 obtain ⟨m,e0,e1,e2,e3,e4,b0,b1,b2,b3⟩:=cv (d0:=E 0) (d1:=E 1) (d2:=E 2) (d3:=E 3) (d4:=E 4) hk0 hk1 hk2 hk3 hk4
 obtain ⟨x,e5⟩:=ok_int (d:=E 5) hk5
 obtain ⟨x2,e6⟩:=ok_int (d:=E 6) hk6
 have el : aH E d87.sig.ins.length=[au m.slots,af m.heads,af m.free,af m.locks,.i m.now,.i x,.i x2]:=by
  show [E 0,E 1,E 2,E 3,E 4,E 5,E 6]=_
  rw [e0,e1,e2,e3,e4,e5,e6]
 rw [el] at hp
 rw [el]
 rw [Env.bJ el]
 clear el e0 e1 e2 e3 e4 e5 e6
 rw [fn87]
 simp only [d87,mem_of,aA,List.getD_cons_zero,List.getD_cons_succ,CD.aR] at hp
 obtain ⟨h1,h2,h3,h4⟩:=hp
 unfold t87
 have r0 : ((au m.slots).rows.getD x.toNat []).getD 0 .u=.i (msl m x.toNat).refs:=KW (by omega)
 have r1 : ((au m.slots).rows.getD x.toNat []).getD 1 .u=.i (msl m x.toNat).k.a:=qc (by omega)
 have r2 : ((au m.slots).rows.getD x.toNat []).getD 2 .u=.i (msl m x.toNat).k.b:=qb (by omega)
 have r3 : ((au m.slots).rows.getD x.toNat []).getD 3 .u=.i (msl m x.toNat).till:=FO (by omega)
 refine ag (by simp only [nrm,xdn,reduceIte,Nat.reduceLT,Nat.reduceSub,Nat.reduceAdd];omega) (ag (by simp only [nrm,xdn,reduceIte,Nat.reduceLT,Nat.reduceSub,Nat.reduceAdd,aN];omega) (ag (by simp only [nrm,xdn,reduceIte,Nat.reduceLT,Nat.reduceSub,Nat.reduceAdd];omega) (ag (by simp only [nrm,xdn,reduceIte,Nat.reduceLT,Nat.reduceSub,Nat.reduceAdd,aw];omega) (G1 (by simp only [nrm,xdn,reduceIte,Nat.reduceLT,Nat.reduceSub,Nat.reduceAdd];omega) (aj ?_)))))
 simp only [nrm,xdn,reduceIte,Nat.reduceLT,Nat.reduceSub,Nat.reduceAdd,r0,r1,r2,r3,iK (show x2.toNat < m.heads.length by omega),vI,FM,FL,FK,CV,CW,iG,aC,Mem.cds]
 rw [Hw (fun s : bp=>(⟨(msl m x.toNat).refs,⟨(msl m x.toNat).k.a,(msl m x.toNat).k.b⟩,(msl m x.toNat).till,true,m.heads.getD x2.toNat 0⟩ : bp)) (jc (aO m x2)) m.slots x.toNat rfl]
 rfl
def s89 : Sig:=⟨[.ptr [.own 52 kS,.own 3 kI,.own 3 kI,.own 3 kI,.int .i64],.one (.int .i64),.one (.int .i64),.one (.int .i64)],[]⟩
def d89 : DC:=⟨s89,fun l=>0≤(l.getD 5 .u).int∧(l.getD 5 .u).int≤(Mem.of l).slots.length∧0≤(l.getD 6 .u).int∧(l.getD 6 .u).int < (Mem.of l).slots.length∧0≤(l.getD 7 .u).int∧(l.getD 7 .u).int < (Mem.of l).heads.length,fun l=>(cut (Mem.of l) (l.getD 5 .u).int (l.getD 6 .u).int (l.getD 7 .u).int).cds⟩
theorem fn89 (m : Mem) (p a b : Int) : d89.fn [au m.slots,af m.heads,af m.free,af m.locks,.i m.now,.i p,.i a,.i b]=(cut m p a b).cds:=by simp only [d89,mem_of,aA,List.getD_cons_zero,List.getD_cons_succ,CD.aR]
theorem pre89 {m : Mem} {p a b : Int} (h0 : 0≤p) (h1 : p≤m.slots.length) (h2 : 0≤a) (h3 : a < m.slots.length) (h4 : 0≤b) (h5 : b < m.heads.length) : d89.pre [au m.slots,af m.heads,af m.free,af m.locks,.i m.now,.i p,.i a,.i b]:=by
 simp only [d89,mem_of,aA,List.getD_cons_zero,List.getD_cons_succ,CD.aR]
 exact ⟨h0,h1,h2,h3,h4,h5⟩
def l89 : List (Nat × Ct):=[]
def z89 : Cx:={ T:=ttA,C:=sigs l89,F:=[],hints:=[],sig:=s89}
def t89 : Tree :=
 (.need (.le (.int 0) (.var 6))
 (.need (.lt (.var 6) (.len (.var 0)))
 (.ite (.eq (.var 5) (.int 0))
 (.need (.le (.int 0) (.var 7))
 (.need (.lt (.var 7) (.len (.var 1)))
 (.ret [.var 0,.set (.var 1) (.var 7) 0 (.cell (.var 0) (.var 6) 5),.var 2,.var 3,.var 4])))
 (.need (.fit (.sub (.var 5) (.int 1)))
 (.need (.le (.int 0) (.sub (.var 5) (.int 1)))
 (.need (.lt (.sub (.var 5) (.int 1)) (.len (.var 0)))
 (.ret [.set (.var 0) (.sub (.var 5) (.int 1)) 5 (.cell (.var 0) (.var 6) 5),.var 1,.var 2,.var 3,.var 4])))))))
theorem run89 : run z89 6000 [.code (Try.f89.body.getD .skip),.fin (bt z89 Try.f89.results.toList 50)] { fn:=89,tmps:=z89.sig.aM ++ List.replicate (Try.f89.ntmps - z89.sig.aM.length) (.v (.one .undef)),stk:=[],h:=z89.sig.h0,nx:=z89.sig.ins.length,known:=[]}=t89:=by kernel_rfl
theorem ok89 : cB Try.prog 89 d89.ct:=by
 refine aD (d:=d89) (Z:=z89) (Γ:=gam l89) (fn:=Try.f89) (c:=Try.f89.body.getD .skip) (bg tok mixed all_nil bh) Try.func89 (by kernel_rfl) (by kernel_rfl) rfl run89 fun E hk hp=>?_
 obtain ⟨hk0,hk1,hk2,hk3,hk4,hk5,hk6,hk7,_⟩:=hk
 obtain ⟨m,e0,e1,e2,e3,e4,b0,b1,b2,b3⟩:=cv (d0:=E 0) (d1:=E 1) (d2:=E 2) (d3:=E 3) (d4:=E 4) hk0 hk1 hk2 hk3 hk4
 obtain ⟨x,e5⟩:=ok_int (d:=E 5) hk5
 obtain ⟨x2,e6⟩:=ok_int (d:=E 6) hk6
 obtain ⟨x3,e7⟩:=ok_int (d:=E 7) hk7
 have el : aH E d89.sig.ins.length=[au m.slots,af m.heads,af m.free,af m.locks,.i m.now,.i x,.i x2,.i x3]:=by
  show [E 0,E 1,E 2,E 3,E 4,E 5,E 6,E 7]=_
  rw [e0,e1,e2,e3,e4,e5,e6,e7]
 rw [el] at hp
 rw [el]
 rw [Env.bJ el]
 clear el e0 e1 e2 e3 e4 e5 e6 e7
 rw [fn89]
 simp only [d89,mem_of,aA,List.getD_cons_zero,List.getD_cons_succ,CD.aR] at hp
 obtain ⟨h0,h1,h2,h3,h4,h5⟩:=hp
 have hn : ((au m.slots).rows.getD x2.toNat []).getD 5 .u=.i (msl m x2.toNat).next:=qa (by omega)
 unfold cut
 unfold t89
 refine ag (by simp only [nrm,xdn,reduceIte,Nat.reduceLT,Nat.reduceSub,Nat.reduceAdd];omega) (ag (by simp only [nrm,xdn,reduceIte,Nat.reduceLT,Nat.reduceSub,Nat.reduceAdd,aN];omega) (G0 (fun h=>?_) (fun h=>?_)))
 ·simp only [nrm,xdn,reduceIte,Nat.reduceLT,Nat.reduceSub,Nat.reduceAdd] at h
  rw [if_neg (by omega)]
  refine ag (by simp only [nrm,xdn,reduceIte,Nat.reduceLT,Nat.reduceSub,Nat.reduceAdd];omega) (ag (by simp only [nrm,xdn,reduceIte,Nat.reduceLT,Nat.reduceSub,Nat.reduceAdd,aw];omega) (aj ?_))
  simp only [nrm,xdn,reduceIte,Nat.reduceLT,Nat.reduceSub,Nat.reduceAdd,hn,iG,Mem.cds]
 ·simp only [nrm,xdn,reduceIte,Nat.reduceLT,Nat.reduceSub,Nat.reduceAdd] at h
  rw [if_pos (by omega)]
  refine G1 (by simp only [nrm,xdn,reduceIte,Nat.reduceLT,Nat.reduceSub,Nat.reduceAdd];omega) (ag (by simp only [nrm,xdn,reduceIte,Nat.reduceLT,Nat.reduceSub,Nat.reduceAdd];omega) (ag (by simp only [nrm,xdn,reduceIte,Nat.reduceLT,Nat.reduceSub,Nat.reduceAdd,aN];omega) (aj ?_)))
  simp only [nrm,xdn,reduceIte,Nat.reduceLT,Nat.reduceSub,Nat.reduceAdd,hn,CV,Mem.cds]
  rfl
end Go.Proofs.Ytpmamacjepcdmaa

namespace Go.Proofs.Ytpmamacjepcdmaa
open Go Go.Sy Go.RowKit
set_option linter.unusedSimpArgs false
set_option linter.unusedVariables false
def s108 : Sig:=⟨[.ptr [.own 52 kS,.own 3 kI,.own 3 kI,.own 3 kI,.int .i64],.agg [.int .i64,.int .i64,.int .i64,.int .i64,.int .i64,.int .i64,.int .i64,.int .i64,.int .i64,.int .i64,.int .i64,.fz kK,.bool,.int .i64],.one (.int .i64)],[.agg [.int .i64,.int .i64,.int .i64,.int .i64,.int .i64,.int .i64,.int .i64,.int .i64,.int .i64,.int .i64,.int .i64,.fz kK,.bool,.int .i64]]⟩
def d108 : DC:=⟨s108,fun l=>aZ (Mem.of l)∧bV (Mem.of l) (Frm.of (l.drop 5))∧(Frm.of (l.drop 5)).c.kind=2,fun l=>(G3 (Mem.of l) (Frm.of (l.drop 5)) (l.getD 19 .u).int).2.cds ++ (G3 (Mem.of l) (Frm.of (l.drop 5)) (l.getD 19 .u).int).1.cds⟩
theorem fn108 (m : Mem) (f : Frm) (x : Int) : d108.fn [au m.slots,af m.heads,af m.free,af m.locks,.i m.now,.i f.c.kind,.i f.c.k.a,.i f.c.k.b,.i f.c.time,.i f.c.bucket,.i f.c.slot,.i f.pc,.i f.cur,.i f.prev,.i f.slot,.i f.n,bS f.keys,.b f.done,.i f.e,.i x]=(G3 m f x).2.cds ++ (G3 m f x).1.cds:=by
 simp only [d108,mem_of,aA,List.drop_succ_cons,List.drop_zero,dJ,List.getD_cons_zero,List.getD_cons_succ,CD.aR]
theorem pi108 {m : Mem} {f : Frm} (hm : aZ m) (hf : bV m f) (hk : f.c.kind=2) (x : Int) : d108.pre [au m.slots,af m.heads,af m.free,af m.locks,.i m.now,.i f.c.kind,.i f.c.k.a,.i f.c.k.b,.i f.c.time,.i f.c.bucket,.i f.c.slot,.i f.pc,.i f.cur,.i f.prev,.i f.slot,.i f.n,bS f.keys,.b f.done,.i f.e,.i x]:=by
 simp only [d108,mem_of,aA,List.drop_succ_cons,List.drop_zero,dJ]
 exact ⟨hm,hf,hk⟩
def l108 : List (Nat × Ct):=[(49,d49.ct),(66,d66.ct),(189,d189.ct),(87,d87.ct),(68,d68.ct),(190,d190.ct)]
noncomputable def z108 : Cx:={ T:=ttA,C:=sigs l108,F:=[(192,Try.f192),(183,Try.f183),(184,Try.f184)],hints:=[],sig:=s108}
def t108 : Tree :=
 (.call 49 [.var 0,.var 1,.var 2,.var 3,.var 4,.var 5,.var 6,.var 7,.var 8,.var 9,.var 10] 20
 (.ite (.eq (.var 11) (.int 0))
 (.need (.fit (.add (.var 4) (.var 8)))
 (.ite (.lt (.int 2000000) (.add (.var 4) (.var 8)))
 (.call 66 [.var 0,.var 1,.var 2,.var 3,.var 4,.var 6,.var 7,.int 2000000] 21
 (.ite (.not (.var 27))
 (.ret [.var 21,.var 22,.var 23,.var 24,.var 25,.var 5,.var 6,.var 7,.var 8,.var 9,.var 10,.var 11,.var 12,.var 13,.var 14,.var 15,.var 16,.bool true,.int 7])
 (.ret [.var 21,.var 22,.var 23,.var 24,.var 25,.var 5,.var 6,.var 7,.var 8,.var 9,.var 10,.int 1,.var 12,.var 13,.var 26,.var 15,.var 16,.var 17,.var 18])))
 (.call 66 [.var 0,.var 1,.var 2,.var 3,.var 4,.var 6,.var 7,.add (.var 4) (.var 8)] 21
 (.ite (.not (.var 27))
 (.ret [.var 21,.var 22,.var 23,.var 24,.var 25,.var 5,.var 6,.var 7,.var 8,.var 9,.var 10,.var 11,.var 12,.var 13,.var 14,.var 15,.var 16,.bool true,.int 7])
 (.ret [.var 21,.var 22,.var 23,.var 24,.var 25,.var 5,.var 6,.var 7,.var 8,.var 9,.var 10,.int 1,.var 12,.var 13,.var 26,.var 15,.var 16,.var 17,.var 18])))))
 (.ite (.eq (.var 11) (.int 1))
 (.call 189 [.var 0,.var 1,.var 2,.var 3,.var 4,.var 20,.var 19] 21
 (.ite (.var 26)
 (.ret [.var 21,.var 22,.var 23,.var 24,.var 25,.var 5,.var 6,.var 7,.var 8,.var 9,.var 10,.int 2,.var 12,.var 13,.var 14,.var 15,.var 16,.var 17,.var 18])
 (.ret [.var 21,.var 22,.var 23,.var 24,.var 25,.var 5,.var 6,.var 7,.var 8,.var 9,.var 10,.var 11,.var 12,.var 13,.var 14,.var 15,.var 16,.var 17,.var 18])))
 (.ite (.eq (.var 11) (.int 2))
 (.need (.le (.int 0) (.var 20))
 (.need (.lt (.var 20) (.len (.var 1)))
 (.ret [.var 0,.var 1,.var 2,.var 3,.var 4,.var 5,.var 6,.var 7,.var 8,.var 9,.var 10,.int 3,.cell (.var 1) (.var 20) 0,.var 13,.var 14,.var 15,.var 16,.var 17,.var 18])))
 (.ite (.eq (.var 11) (.int 3))
 (.ite (.not (.lt (.int 0) (.var 12)))
 (.ret [.var 0,.var 1,.var 2,.var 3,.var 4,.var 5,.var 6,.var 7,.var 8,.var 9,.var 10,.int 5,.var 12,.var 13,.var 14,.var 15,.var 16,.var 17,.var 18])
 (.need (.fit (.sub (.var 12) (.int 1)))
 (.need (.le (.int 0) (.sub (.var 12) (.int 1)))
 (.need (.lt (.sub (.var 12) (.int 1)) (.len (.var 0)))
 (.ite (.and (.eq (.cell (.var 0) (.sub (.var 12) (.int 1)) 1) (.var 6)) (.and (.eq (.cell (.var 0) (.sub (.var 12) (.int 1)) 2) (.var 7)) (.bool true)))
 (.ret [.var 0,.var 1,.var 2,.var 3,.var 4,.var 5,.var 6,.var 7,.var 8,.var 9,.var 10,.int 6,.var 12,.var 13,.var 14,.var 15,.var 16,.var 17,.var 18])
 (.ret [.var 0,.var 1,.var 2,.var 3,.var 4,.var 5,.var 6,.var 7,.var 8,.var 9,.var 10,.int 4,.var 12,.var 13,.var 14,.var 15,.var 16,.var 17,.var 18]))))))
 (.ite (.eq (.var 11) (.int 4))
 (.ite (.lt (.int 0) (.var 12))
 (.need (.fit (.sub (.var 12) (.int 1)))
 (.need (.le (.int 0) (.sub (.var 12) (.int 1)))
 (.need (.lt (.sub (.var 12) (.int 1)) (.len (.var 0)))
 (.ret [.var 0,.var 1,.var 2,.var 3,.var 4,.var 5,.var 6,.var 7,.var 8,.var 9,.var 10,.int 3,.cell (.var 0) (.sub (.var 12) (.int 1)) 5,.var 13,.var 14,.var 15,.var 16,.var 17,.var 18]))))
 (.ret [.var 0,.var 1,.var 2,.var 3,.var 4,.var 5,.var 6,.var 7,.var 8,.var 9,.var 10,.int 7,.var 12,.var 13,.var 14,.var 15,.var 16,.var 17,.int 8]))
 (.ite (.eq (.var 11) (.int 5))
 (.ite (.le (.int 0) (.var 14))
 (.call 87 [.var 0,.var 1,.var 2,.var 3,.var 4,.var 14,.var 20] 21
 (.ret [.var 21,.var 22,.var 23,.var 24,.var 25,.var 5,.var 6,.var 7,.var 8,.var 9,.var 10,.int 7,.var 12,.var 13,.var 14,.var 15,.var 16,.var 17,.int 0]))
 (.ret [.var 0,.var 1,.var 2,.var 3,.var 4,.var 5,.var 6,.var 7,.var 8,.var 9,.var 10,.int 7,.var 12,.var 13,.var 14,.var 15,.var 16,.var 17,.int 8]))
 (.ite (.eq (.var 11) (.int 6))
 (.ite (.le (.int 0) (.var 14))
 (.call 68 [.var 0,.var 1,.var 2,.var 3,.var 4,.var 14] 21
 (.ret [.var 21,.var 22,.var 23,.var 24,.var 25,.var 5,.var 6,.var 7,.var 8,.var 9,.var 10,.int 7,.var 12,.var 13,.int (-1),.var 15,.var 16,.var 17,.int 6]))
 (.ret [.var 0,.var 1,.var 2,.var 3,.var 4,.var 5,.var 6,.var 7,.var 8,.var 9,.var 10,.int 7,.var 12,.var 13,.var 14,.var 15,.var 16,.var 17,.int 8]))
 (.ite (.eq (.var 11) (.int 7))
 (.call 190 [.var 0,.var 1,.var 2,.var 3,.var 4,.var 20,.var 19] 21
 (.ret [.var 21,.var 22,.var 23,.var 24,.var 25,.var 5,.var 6,.var 7,.var 8,.var 9,.var 10,.var 11,.var 12,.var 13,.var 14,.var 15,.var 16,.bool true,.var 18]))
 (.ret [.var 0,.var 1,.var 2,.var 3,.var 4,.var 5,.var 6,.var 7,.var 8,.var 9,.var 10,.int 7,.var 12,.var 13,.var 14,.var 15,.var 16,.var 17,.int 8]))))))))))
theorem run108 : run z108 6000 [.code (Try.f108.body.getD .skip),.fin (bt z108 Try.f108.results.toList 50)] { fn:=108,tmps:=z108.sig.aM ++ List.replicate (Try.f108.ntmps - z108.sig.aM.length) (.v (.one .undef)),stk:=[],h:=z108.sig.h0,nx:=z108.sig.ins.length,known:=[]}=t108:=by kernel_rfl
set_option maxHeartbeats 16000000 in
theorem ok108 : cB Try.prog 108 d108.ct:=by
 refine aD (d:=d108) (Z:=z108) (Γ:=gam l108) (fn:=Try.f108) (c:=Try.f108.body.getD .skip) (bg tok mixed (all_cons ok49 (all_cons ok66 (all_cons ok189 (all_cons ok87 (all_cons ok68 (all_cons ok190 all_nil)))))) (dX (c:=Try.f192.body.getD .skip) Try.func192 (by kernel_rfl) (by kernel_rfl) (dX (c:=Try.f183.body.getD .skip) Try.func183 (by kernel_rfl) (by kernel_rfl) (dX (c:=Try.f184.body.getD .skip) Try.func184 (by kernel_rfl) (by kernel_rfl) bh)))) Try.func108 (by kernel_rfl) (by kernel_rfl) rfl run108 fun E hk hp=>?_
 obtain ⟨hk0,hk1,hk2,hk3,hk4,hk5,hk6,hk7,hk8,hk9,hk10,hk11,hk12,hk13,hk14,hk15,hk16,hk17,hk18,hk19,_⟩:=hk
 obtain ⟨m,e0,e1,e2,e3,e4,b0,b1,b2,b3⟩:=cv (d0:=E 0) (d1:=E 1) (d2:=E 2) (d3:=E 3) (d4:=E 4) hk0 hk1 hk2 hk3 hk4
 obtain ⟨f,e5,e6,e7,e8,e9,e10,e11,e12,e13,e14,e15,e16,e17,e18,b16⟩:=ja (d0:=E 5) (d1:=E 6) (d2:=E 7) (d3:=E 8) (d4:=E 9) (d5:=E 10) (d6:=E 11) (d7:=E 12) (d8:=E 13) (d9:=E 14) (d10:=E 15) (d11:=E 16) (d12:=E 17) (d13:=E 18) hk5 hk6 hk7 hk8 hk9 hk10 hk11 hk12 hk13 hk14 hk15 hk16 hk17 hk18
 obtain ⟨x,e19⟩:=ok_int (d:=E 19) hk19
 have el : aH E d108.sig.ins.length=[au m.slots,af m.heads,af m.free,af m.locks,.i m.now,.i f.c.kind,.i f.c.k.a,.i f.c.k.b,.i f.c.time,.i f.c.bucket,.i f.c.slot,.i f.pc,.i f.cur,.i f.prev,.i f.slot,.i f.n,bS f.keys,.b f.done,.i f.e,.i x]:=by
  show [E 0,E 1,E 2,E 3,E 4,E 5,E 6,E 7,E 8,E 9,E 10,E 11,E 12,E 13,E 14,E 15,E 16,E 17,E 18,E 19]=_
  rw [e0,e1,e2,e3,e4,e5,e6,e7,e8,e9,e10,e11,e12,e13,e14,e15,e16,e17,e18,e19]
 rw [el] at hp
 rw [el]
 rw [Env.bJ el]
 clear el e0 e1 e2 e3 e4 e5 e6 e7 e8 e9 e10 e11 e12 e13 e14 e15 e16 e17 e18 e19
 rw [fn108]
 simp only [d108,mem_of,aA,List.drop_succ_cons,List.drop_zero,dJ] at hp
 obtain ⟨hm,hf,hk⟩ : aZ m∧bV m f∧f.c.kind=2:=hp
 have hb:=aQ hm hf.call (by omega)
 have gs:=hm.ns
 have g4:=hm.nh4
 have eH : ((af m.heads).rows.getD (aa m f.c).toNat []).getD 0 .u=.i (aO m (aa m f.c)):=iK (by omega)
 obtain ⟨f1,f2,f3,f4,f5,f6,f7,f8,f9,f10,f11,f12,f13⟩:=id hf
 have eN : 0 < f.cur→((au m.slots).rows.getD (f.cur - 1).toNat []).getD 5 .u=.i (at1 m f).next:=fun _=>qa (by omega)
 have eK1 : 0 < f.cur→((au m.slots).rows.getD (f.cur - 1).toNat []).getD 1 .u=.i (at1 m f).k.a:=fun _=>qc (by omega)
 have eK2 : 0 < f.cur→((au m.slots).rows.getD (f.cur - 1).toNat []).getD 2 .u=.i (at1 m f).k.b:=fun _=>qb (by omega)
 have a1 : m.slots.getD (f.cur - 1).toNat default=at1 m f:=rfl
 have a2 : m.slots.getD f.slot.toNat default=at2 m f:=rfl
 have gn0:=hm.ma
 have gn1:=hm.Ik
 have gt:=nv hf.call hk
 have tl : (if (2000000 : Int) < m.now + f.c.time then 2000000 else m.now + f.c.time)=bE m f:=by unfold bE;split <;> split <;> omega
 unfold t108
 repeat'
  show Tree.den _ _ _ _ _
  first
   | (with_reducible refine G0 (b:=.not (.var _)) (fun hx=>?_) (fun hx=>?_)) <;> simp only [nrm,xdn,reduceIte,Nat.reduceLT,Nat.reduceSub,Nat.reduceAdd,cG,cF,cy,cx,cE,aG,a1,a2,bX,Mem.cds,lca,Bool.not_eq_true',Bool.not_eq_false'] at hx <;> try have ht:=Aj hx
   | (with_reducible refine G0 (b:=.var _) (fun hx=>?_) (fun hx=>?_)) <;> simp only [nrm,xdn,reduceIte,Nat.reduceLT,Nat.reduceSub,Nat.reduceAdd,cG,cF,cy,cx,cE,aG,a1,a2,bX,Mem.cds,lca,Bool.not_eq_true',Bool.not_eq_false'] at hx <;> try have ht:=Aj hx
   | (with_reducible refine G0 (fun h=>?_) (fun h=>?_)) <;> simp only [nrm,xdn,reduceIte,Nat.reduceLT,Nat.reduceSub,Nat.reduceAdd,cG,cF,cy,cx,cE,aG,a1,a2,bX,Mem.cds,lca,Bool.not_eq_true',Bool.not_eq_false'] at h <;> try first | replace h:=AW h | replace h:=AY h | have ht:=Aj h
   | (with_reducible refine G1 ?_ ?_;· simp only [nrm,xdn,reduceIte,Nat.reduceLT,Nat.reduceSub,Nat.reduceAdd,aN,aw,bX,cG,cF,cy,cx,cE,aG,a1,a2];omega)
   | (with_reducible refine eh ?_ ?_;· simp only [nrm,xdn,reduceIte,Nat.reduceLT,Nat.reduceSub,Nat.reduceAdd,aN,aw,bX,cG,cF,cy,cx,cE,aG,a1,a2];omega)
   | (with_reducible refine lv ?_ ?_;· simp only [nrm,xdn,reduceIte,Nat.reduceLT,Nat.reduceSub,Nat.reduceAdd,aN,aw,bX,cG,cF,cy,cx,cE,aG,a1,a2];omega)
   | with_reducible refine aj ?_
   | refine ai d49 [.i (aa m f.c)] rfl trivial (by simp only [nrm,xdn,reduceIte,Nat.reduceLT,Nat.reduceSub,Nat.reduceAdd,fn49]) ?_
   | refine ai d66 ((take m f.c.k (bE m f)).1.cds ++ [.i (take m f.c.k (bE m f)).2.1,.b (decide ((take m f.c.k (bE m f)).2.2=0))]) rfl (by simp only [nrm,xdn,reduceIte,Nat.reduceLT,Nat.reduceSub,Nat.reduceAdd];exact pi66 hm) (by simp only [nrm,xdn,reduceIte,Nat.reduceLT,Nat.reduceSub,Nat.reduceAdd];rw [show bE m f=2000000 from by unfold bE;split <;> omega];exact fn66 m f.c.k 2000000) ?_
   | refine ai d66 ((take m f.c.k (bE m f)).1.cds ++ [.i (take m f.c.k (bE m f)).2.1,.b (decide ((take m f.c.k (bE m f)).2.2=0))]) rfl (by simp only [nrm,xdn,reduceIte,Nat.reduceLT,Nat.reduceSub,Nat.reduceAdd];exact pi66 hm) (by simp only [nrm,xdn,reduceIte,Nat.reduceLT,Nat.reduceSub,Nat.reduceAdd];rw [show bE m f=(m.now + f.c.time) from by unfold bE;split <;> omega];exact fn66 m f.c.k (m.now + f.c.time)) ?_
   | refine ai d189 ((lock m (aa m f.c) x).1.cds ++ [.b (lock m (aa m f.c) x).2]) rfl (by simp only [nrm,xdn,reduceIte,Nat.reduceLT,Nat.reduceSub,Nat.reduceAdd];exact pi189 hm hb.1 hb.2) (by simp only [nrm,xdn,reduceIte,Nat.reduceLT,Nat.reduceSub,Nat.reduceAdd,fn189]) ?_
   | refine ai d87 (link m f.slot (aa m f.c)).cds rfl (by simp only [nrm,xdn,reduceIte,Nat.reduceLT,Nat.reduceSub,Nat.reduceAdd];exact pre87 (by omega) (by omega) hb.1 hb.2) (by simp only [nrm,xdn,reduceIte,Nat.reduceLT,Nat.reduceSub,Nat.reduceAdd,fn87]) ?_
   | refine ai d68 (put m f.slot).cds rfl (by simp only [nrm,xdn,reduceIte,Nat.reduceLT,Nat.reduceSub,Nat.reduceAdd];exact pi68 hm (by omega) (by omega)) (by simp only [nrm,xdn,reduceIte,Nat.reduceLT,Nat.reduceSub,Nat.reduceAdd,fn68]) ?_
   | refine ai d190 (unlock m (aa m f.c) x).cds rfl (by simp only [nrm,xdn,reduceIte,Nat.reduceLT,Nat.reduceSub,Nat.reduceAdd];exact pi190 hm hb.1 hb.2) (by simp only [nrm,xdn,reduceIte,Nat.reduceLT,Nat.reduceSub,Nat.reduceAdd,fn190]) ?_
 all_goals first | (exfalso;omega) | skip
 all_goals unfold G3
 all_goals repeat (first | rw [if_neg (by omega)] | rw [if_pos (by omega)] | rw [if_pos (by assumption)] | rw [if_neg (by assumption)] | rw [if_neg (ne_true_of_eq_false (by assumption))] | rw [if_pos (Or.inl (by assumption))] | rw [if_pos (Or.inr (by assumption))] | rw [if_neg (fun y=>Or.elim y (fun z=>z (by assumption)) (fun z=>Bool.false_ne_true (z.symm.trans (by assumption))))])
 all_goals try rw [sb hx]
 all_goals try rw [rX hx]
 all_goals try simp only [nrm,xdn,reduceIte,Nat.reduceLT,Nat.reduceSub,Nat.reduceAdd,Mem.cds,Frm.cds,ay,lca,CD.row,List.headD_cons,eH,cR,Bool.false_eq_true,Bool.true_eq_false]
 all_goals try simp only [nrm,xdn,reduceIte,Nat.reduceLT,Nat.reduceSub,Nat.reduceAdd,Mem.cds,Frm.cds,ay,lca,CD.row,List.headD_cons,eH,cR,Bool.false_eq_true,Bool.true_eq_false,hx]
 all_goals try simp only [nrm,xdn,reduceIte,Nat.reduceLT,Nat.reduceSub,Nat.reduceAdd,Mem.cds,Frm.cds,ay,lca,CD.row,List.headD_cons,eH,cR,Bool.false_eq_true,Bool.true_eq_false,hc]
 all_goals try simp only [nrm,xdn,reduceIte,Nat.reduceLT,Nat.reduceSub,Nat.reduceAdd,Mem.cds,Frm.cds,ay,lca,CD.row,List.headD_cons,eH,cR,Bool.false_eq_true,Bool.true_eq_false,ht]
 all_goals try simp only [nrm,xdn,reduceIte,Nat.reduceLT,Nat.reduceSub,Nat.reduceAdd,Mem.cds,Frm.cds,ay,lca,CD.row,List.headD_cons,eH,cR,Bool.false_eq_true,Bool.true_eq_false,eN (by omega),eK1 (by omega),eK2 (by omega)]
 all_goals first | (have e14 : f.slot=-1:=(by omega);simp only [e14];done) | (have e15 : f.n=1000000:=(by omega);simp only [e15];done)
end Go.Proofs.Ytpmamacjepcdmaa

namespace Go.Proofs.Ytpmamacjepcdmaa
open Go Go.Sy Go.RowKit
set_option linter.unusedSimpArgs false
set_option linter.unusedVariables false
def s105 : Sig:=⟨[.ptr [.own 52 kS,.own 3 kI,.own 3 kI,.own 3 kI,.int .i64],.agg [.int .i64,.int .i64,.int .i64,.int .i64,.int .i64,.int .i64,.int .i64,.int .i64,.int .i64,.int .i64,.int .i64,.fz kK,.bool,.int .i64],.one (.int .i64)],[.agg [.int .i64,.int .i64,.int .i64,.int .i64,.int .i64,.int .i64,.int .i64,.int .i64,.int .i64,.int .i64,.int .i64,.fz kK,.bool,.int .i64]]⟩
def d105 : DC:=⟨s105,fun l=>aZ (Mem.of l)∧bV (Mem.of l) (Frm.of (l.drop 5))∧(Frm.of (l.drop 5)).c.kind=3,fun l=>(aL (Mem.of l) (Frm.of (l.drop 5)) (l.getD 19 .u).int).2.cds ++ (aL (Mem.of l) (Frm.of (l.drop 5)) (l.getD 19 .u).int).1.cds⟩
theorem fn105 (m : Mem) (f : Frm) (x : Int) : d105.fn [au m.slots,af m.heads,af m.free,af m.locks,.i m.now,.i f.c.kind,.i f.c.k.a,.i f.c.k.b,.i f.c.time,.i f.c.bucket,.i f.c.slot,.i f.pc,.i f.cur,.i f.prev,.i f.slot,.i f.n,bS f.keys,.b f.done,.i f.e,.i x]=(aL m f x).2.cds ++ (aL m f x).1.cds:=by
 simp only [d105,mem_of,aA,List.drop_succ_cons,List.drop_zero,dJ,List.getD_cons_zero,List.getD_cons_succ,CD.aR]
theorem pi105 {m : Mem} {f : Frm} (hm : aZ m) (hf : bV m f) (hk : f.c.kind=3) (x : Int) : d105.pre [au m.slots,af m.heads,af m.free,af m.locks,.i m.now,.i f.c.kind,.i f.c.k.a,.i f.c.k.b,.i f.c.time,.i f.c.bucket,.i f.c.slot,.i f.pc,.i f.cur,.i f.prev,.i f.slot,.i f.n,bS f.keys,.b f.done,.i f.e,.i x]:=by
 simp only [d105,mem_of,aA,List.drop_succ_cons,List.drop_zero,dJ]
 exact ⟨hm,hf,hk⟩
def l105 : List (Nat × Ct):=[(49,d49.ct),(189,d189.ct),(89,d89.ct),(190,d190.ct),(68,d68.ct)]
noncomputable def z105 : Cx:={ T:=ttA,C:=sigs l105,F:=[(188,Try.f188),(183,Try.f183),(184,Try.f184)],hints:=[],sig:=s105}
def t105 : Tree :=
 (.call 49 [.var 0,.var 1,.var 2,.var 3,.var 4,.var 5,.var 6,.var 7,.var 8,.var 9,.var 10] 20
 (.ite (.eq (.var 11) (.int 0))
 (.call 189 [.var 0,.var 1,.var 2,.var 3,.var 4,.var 20,.var 19] 21
 (.ite (.var 26)
 (.ret [.var 21,.var 22,.var 23,.var 24,.var 25,.var 5,.var 6,.var 7,.var 8,.var 9,.var 10,.int 1,.var 12,.var 13,.var 14,.var 15,.var 16,.var 17,.var 18])
 (.ret [.var 21,.var 22,.var 23,.var 24,.var 25,.var 5,.var 6,.var 7,.var 8,.var 9,.var 10,.var 11,.var 12,.var 13,.var 14,.var 15,.var 16,.var 17,.var 18])))
 (.ite (.eq (.var 11) (.int 1))
 (.need (.le (.int 0) (.var 20))
 (.need (.lt (.var 20) (.len (.var 1)))
 (.ret [.var 0,.var 1,.var 2,.var 3,.var 4,.var 5,.var 6,.var 7,.var 8,.var 9,.var 10,.int 2,.cell (.var 1) (.var 20) 0,.int 0,.var 14,.var 15,.var 16,.var 17,.var 18])))
 (.ite (.eq (.var 11) (.int 2))
 (.ite (.not (.lt (.int 0) (.var 12)))
 (.ret [.var 0,.var 1,.var 2,.var 3,.var 4,.var 5,.var 6,.var 7,.var 8,.var 9,.var 10,.int 5,.var 12,.var 13,.var 14,.var 15,.var 16,.var 17,.int 5])
 (.need (.fit (.sub (.var 12) (.int 1)))
 (.need (.le (.int 0) (.sub (.var 12) (.int 1)))
 (.need (.lt (.sub (.var 12) (.int 1)) (.len (.var 0)))
 (.ite (.and (.eq (.cell (.var 0) (.sub (.var 12) (.int 1)) 1) (.var 6)) (.and (.eq (.cell (.var 0) (.sub (.var 12) (.int 1)) 2) (.var 7)) (.bool true)))
 (.ret [.var 0,.var 1,.var 2,.var 3,.var 4,.var 5,.var 6,.var 7,.var 8,.var 9,.var 10,.int 4,.var 12,.var 13,.var 14,.var 15,.var 16,.var 17,.var 18])
 (.ret [.var 0,.var 1,.var 2,.var 3,.var 4,.var 5,.var 6,.var 7,.var 8,.var 9,.var 10,.int 3,.var 12,.var 13,.var 14,.var 15,.var 16,.var 17,.var 18]))))))
 (.ite (.eq (.var 11) (.int 3))
 (.ite (.lt (.int 0) (.var 12))
 (.need (.fit (.sub (.var 12) (.int 1)))
 (.need (.le (.int 0) (.sub (.var 12) (.int 1)))
 (.need (.lt (.sub (.var 12) (.int 1)) (.len (.var 0)))
 (.ret [.var 0,.var 1,.var 2,.var 3,.var 4,.var 5,.var 6,.var 7,.var 8,.var 9,.var 10,.int 2,.cell (.var 0) (.sub (.var 12) (.int 1)) 5,.var 12,.var 14,.var 15,.var 16,.var 17,.var 18]))))
 (.ret [.var 0,.var 1,.var 2,.var 3,.var 4,.var 5,.var 6,.var 7,.var 8,.var 9,.var 10,.int 5,.var 12,.var 13,.var 14,.var 15,.var 16,.var 17,.int 8]))
 (.ite (.eq (.var 11) (.int 4))
 (.ite (.lt (.int 0) (.var 12))
 (.need (.fit (.sub (.var 12) (.int 1)))
 (.call 89 [.var 0,.var 1,.var 2,.var 3,.var 4,.var 13,.sub (.var 12) (.int 1),.var 20] 21
 (.ret [.var 21,.var 22,.var 23,.var 24,.var 25,.var 5,.var 6,.var 7,.var 8,.var 9,.var 10,.int 5,.var 12,.var 13,.sub (.var 12) (.int 1),.var 15,.var 16,.var 17,.int 0])))
 (.ret [.var 0,.var 1,.var 2,.var 3,.var 4,.var 5,.var 6,.var 7,.var 8,.var 9,.var 10,.int 5,.var 12,.var 13,.var 14,.var 15,.var 16,.var 17,.int 8]))
 (.ite (.eq (.var 11) (.int 5))
 (.call 190 [.var 0,.var 1,.var 2,.var 3,.var 4,.var 20,.var 19] 21
 (.ret [.var 21,.var 22,.var 23,.var 24,.var 25,.var 5,.var 6,.var 7,.var 8,.var 9,.var 10,.int 6,.var 12,.var 13,.var 14,.var 15,.var 16,.var 17,.var 18]))
 (.ite (.eq (.var 11) (.int 6))
 (.ite (.not (.eq (.var 14) (.int (-1))))
 (.call 68 [.var 0,.var 1,.var 2,.var 3,.var 4,.var 14] 21
 (.ret [.var 21,.var 22,.var 23,.var 24,.var 25,.var 5,.var 6,.var 7,.var 8,.var 9,.var 10,.var 11,.var 12,.var 13,.int (-1),.var 15,.var 16,.bool true,.var 18]))
 (.ret [.var 0,.var 1,.var 2,.var 3,.var 4,.var 5,.var 6,.var 7,.var 8,.var 9,.var 10,.var 11,.var 12,.var 13,.int (-1),.var 15,.var 16,.bool true,.var 18]))
 (.ret [.var 0,.var 1,.var 2,.var 3,.var 4,.var 5,.var 6,.var 7,.var 8,.var 9,.var 10,.int 5,.var 12,.var 13,.var 14,.var 15,.var 16,.var 17,.int 8])))))))))
theorem run105 : run z105 6000 [.code (Try.f105.body.getD .skip),.fin (bt z105 Try.f105.results.toList 50)] { fn:=105,tmps:=z105.sig.aM ++ List.replicate (Try.f105.ntmps - z105.sig.aM.length) (.v (.one .undef)),stk:=[],h:=z105.sig.h0,nx:=z105.sig.ins.length,known:=[]}=t105:=by kernel_rfl
set_option maxHeartbeats 16000000 in
theorem ok105 : cB Try.prog 105 d105.ct:=by
 refine aD (d:=d105) (Z:=z105) (Γ:=gam l105) (fn:=Try.f105) (c:=Try.f105.body.getD .skip) (bg tok mixed (all_cons ok49 (all_cons ok189 (all_cons ok89 (all_cons ok190 (all_cons ok68 all_nil))))) (dX (c:=Try.f188.body.getD .skip) Try.func188 (by kernel_rfl) (by kernel_rfl) (dX (c:=Try.f183.body.getD .skip) Try.func183 (by kernel_rfl) (by kernel_rfl) (dX (c:=Try.f184.body.getD .skip) Try.func184 (by kernel_rfl) (by kernel_rfl) bh)))) Try.func105 (by kernel_rfl) (by kernel_rfl) rfl run105 fun E hk hp=>?_
 obtain ⟨hk0,hk1,hk2,hk3,hk4,hk5,hk6,hk7,hk8,hk9,hk10,hk11,hk12,hk13,hk14,hk15,hk16,hk17,hk18,hk19,_⟩:=hk
 obtain ⟨m,e0,e1,e2,e3,e4,b0,b1,b2,b3⟩:=cv (d0:=E 0) (d1:=E 1) (d2:=E 2) (d3:=E 3) (d4:=E 4) hk0 hk1 hk2 hk3 hk4
 obtain ⟨f,e5,e6,e7,e8,e9,e10,e11,e12,e13,e14,e15,e16,e17,e18,b16⟩:=ja (d0:=E 5) (d1:=E 6) (d2:=E 7) (d3:=E 8) (d4:=E 9) (d5:=E 10) (d6:=E 11) (d7:=E 12) (d8:=E 13) (d9:=E 14) (d10:=E 15) (d11:=E 16) (d12:=E 17) (d13:=E 18) hk5 hk6 hk7 hk8 hk9 hk10 hk11 hk12 hk13 hk14 hk15 hk16 hk17 hk18
 obtain ⟨x,e19⟩:=ok_int (d:=E 19) hk19
 have el : aH E d105.sig.ins.length=[au m.slots,af m.heads,af m.free,af m.locks,.i m.now,.i f.c.kind,.i f.c.k.a,.i f.c.k.b,.i f.c.time,.i f.c.bucket,.i f.c.slot,.i f.pc,.i f.cur,.i f.prev,.i f.slot,.i f.n,bS f.keys,.b f.done,.i f.e,.i x]:=by
  show [E 0,E 1,E 2,E 3,E 4,E 5,E 6,E 7,E 8,E 9,E 10,E 11,E 12,E 13,E 14,E 15,E 16,E 17,E 18,E 19]=_
  rw [e0,e1,e2,e3,e4,e5,e6,e7,e8,e9,e10,e11,e12,e13,e14,e15,e16,e17,e18,e19]
 rw [el] at hp
 rw [el]
 rw [Env.bJ el]
 clear el e0 e1 e2 e3 e4 e5 e6 e7 e8 e9 e10 e11 e12 e13 e14 e15 e16 e17 e18 e19
 rw [fn105]
 simp only [d105,mem_of,aA,List.drop_succ_cons,List.drop_zero,dJ] at hp
 obtain ⟨hm,hf,hk⟩ : aZ m∧bV m f∧f.c.kind=3:=hp
 have hb:=aQ hm hf.call (by omega)
 have gs:=hm.ns
 have g4:=hm.nh4
 have eH : ((af m.heads).rows.getD (aa m f.c).toNat []).getD 0 .u=.i (aO m (aa m f.c)):=iK (by omega)
 obtain ⟨f1,f2,f3,f4,f5,f6,f7,f8,f9,f10,f11,f12,f13⟩:=id hf
 have eN : 0 < f.cur→((au m.slots).rows.getD (f.cur - 1).toNat []).getD 5 .u=.i (at1 m f).next:=fun _=>qa (by omega)
 have eK1 : 0 < f.cur→((au m.slots).rows.getD (f.cur - 1).toNat []).getD 1 .u=.i (at1 m f).k.a:=fun _=>qc (by omega)
 have eK2 : 0 < f.cur→((au m.slots).rows.getD (f.cur - 1).toNat []).getD 2 .u=.i (at1 m f).k.b:=fun _=>qb (by omega)
 have a1 : m.slots.getD (f.cur - 1).toNat default=at1 m f:=rfl
 have a2 : m.slots.getD f.slot.toNat default=at2 m f:=rfl
 unfold t105
 repeat'
  show Tree.den _ _ _ _ _
  first
   | (with_reducible refine G0 (b:=.var _) (fun hx=>?_) (fun hx=>?_)) <;> simp only [nrm,xdn,reduceIte,Nat.reduceLT,Nat.reduceSub,Nat.reduceAdd,cG,cF,cy,cx,cE,aG,a1,a2,bX,Mem.cds,lca,Bool.not_eq_true',Bool.not_eq_false'] at hx
   | (with_reducible refine G0 (fun h=>?_) (fun h=>?_)) <;> simp only [nrm,xdn,reduceIte,Nat.reduceLT,Nat.reduceSub,Nat.reduceAdd,cG,cF,cy,cx,cE,aG,a1,a2,bX,Mem.cds,lca,Bool.not_eq_true',Bool.not_eq_false'] at h <;> try first | replace h:=AW h | replace h:=AY h
   | (with_reducible refine eh ?_ ?_;· simp only [nrm,xdn,reduceIte,Nat.reduceLT,Nat.reduceSub,Nat.reduceAdd,aN,aw,bX,cG,cF,cy,cx,cE,aG,a1,a2];omega)
   | (with_reducible refine lv ?_ ?_;· simp only [nrm,xdn,reduceIte,Nat.reduceLT,Nat.reduceSub,Nat.reduceAdd,aN,aw,bX,cG,cF,cy,cx,cE,aG,a1,a2];omega)
   | (with_reducible refine G1 ?_ ?_;· simp only [nrm,xdn,reduceIte,Nat.reduceLT,Nat.reduceSub,Nat.reduceAdd,aN,aw,bX,cG,cF,cy,cx,cE,aG,a1,a2];omega)
   | with_reducible refine aj ?_
   | refine ai d49 [.i (aa m f.c)] rfl trivial (by simp only [nrm,xdn,reduceIte,Nat.reduceLT,Nat.reduceSub,Nat.reduceAdd,fn49]) ?_
   | refine ai d189 ((lock m (aa m f.c) x).1.cds ++ [.b (lock m (aa m f.c) x).2]) rfl (by simp only [nrm,xdn,reduceIte,Nat.reduceLT,Nat.reduceSub,Nat.reduceAdd];exact pi189 hm hb.1 hb.2) (by simp only [nrm,xdn,reduceIte,Nat.reduceLT,Nat.reduceSub,Nat.reduceAdd,fn189]) ?_
   | refine ai d89 (cut m f.prev (f.cur - 1) (aa m f.c)).cds rfl (by simp only [nrm,xdn,reduceIte,Nat.reduceLT,Nat.reduceSub,Nat.reduceAdd];exact pre89 (by omega) (by omega) (by omega) (by omega) hb.1 hb.2) (by simp only [nrm,xdn,reduceIte,Nat.reduceLT,Nat.reduceSub,Nat.reduceAdd,fn89]) ?_
   | refine ai d190 (unlock m (aa m f.c) x).cds rfl (by simp only [nrm,xdn,reduceIte,Nat.reduceLT,Nat.reduceSub,Nat.reduceAdd];exact pi190 hm hb.1 hb.2) (by simp only [nrm,xdn,reduceIte,Nat.reduceLT,Nat.reduceSub,Nat.reduceAdd,fn190]) ?_
   | refine ai d68 (put m f.slot).cds rfl (by simp only [nrm,xdn,reduceIte,Nat.reduceLT,Nat.reduceSub,Nat.reduceAdd];exact pi68 hm (by omega) (by omega)) (by simp only [nrm,xdn,reduceIte,Nat.reduceLT,Nat.reduceSub,Nat.reduceAdd,fn68]) ?_
 all_goals first | (exfalso;omega) | skip
 all_goals unfold aL
 all_goals repeat (first | rw [if_neg (by omega)] | rw [if_pos (by omega)] | rw [if_pos (by assumption)] | rw [if_neg (by assumption)] | rw [if_neg (ne_true_of_eq_false (by assumption))] | rw [if_pos (Or.inl (by assumption))] | rw [if_pos (Or.inr (by assumption))] | rw [if_neg (fun y=>Or.elim y (fun z=>z (by assumption)) (fun z=>Bool.false_ne_true (z.symm.trans (by assumption))))])
 all_goals try rw [sb hx]
 all_goals try rw [rX hx]
 all_goals try simp only [nrm,xdn,reduceIte,Nat.reduceLT,Nat.reduceSub,Nat.reduceAdd,Mem.cds,Frm.cds,ay,lca,CD.row,List.headD_cons,eH,cR,Bool.false_eq_true,Bool.true_eq_false]
 all_goals try simp only [nrm,xdn,reduceIte,Nat.reduceLT,Nat.reduceSub,Nat.reduceAdd,Mem.cds,Frm.cds,ay,lca,CD.row,List.headD_cons,eH,cR,Bool.false_eq_true,Bool.true_eq_false,hx]
 all_goals try simp only [nrm,xdn,reduceIte,Nat.reduceLT,Nat.reduceSub,Nat.reduceAdd,Mem.cds,Frm.cds,ay,lca,CD.row,List.headD_cons,eH,cR,Bool.false_eq_true,Bool.true_eq_false,hc]
 all_goals try simp only [nrm,xdn,reduceIte,Nat.reduceLT,Nat.reduceSub,Nat.reduceAdd,Mem.cds,Frm.cds,ay,lca,CD.row,List.headD_cons,eH,cR,Bool.false_eq_true,Bool.true_eq_false,ht]
 all_goals try simp only [nrm,xdn,reduceIte,Nat.reduceLT,Nat.reduceSub,Nat.reduceAdd,Mem.cds,Frm.cds,ay,lca,CD.row,List.headD_cons,eH,cR,Bool.false_eq_true,Bool.true_eq_false,eN (by omega),eK1 (by omega),eK2 (by omega)]
 all_goals first | (have e14 : f.slot=-1:=(by omega);simp only [e14];done) | (have e15 : f.n=1000000:=(by omega);simp only [e15];done)
end Go.Proofs.Ytpmamacjepcdmaa
