import Derived.Test.YtpmamacjepcdmaaCLock
import Derived.Test.YtpmamacjepcdmaaCPlayed
namespace Go.Proofs.Ytpmamacjepcdmaa
open Go Go.Sy Go.RowKit
set_option linter.unusedSimpArgs false
set_option linter.unusedVariables false
end Go.Proofs.Ytpmamacjepcdmaa

namespace Go.Proofs.Ytpmamacjepcdmaa
open Go Go.Sy Go.RowKit
set_option linter.unusedSimpArgs false
set_option linter.unusedVariables false
def Pst.of (l : List CD) : Pst:=⟨(l.getD 0 .u).int,Cal.of (l.drop 1),(l.getD 7 .u).int,(l.getD 8 .u).int,(l.getD 9 .u).int,(l.getD 10 .u).int,(l.getD 11 .u).int,(l.getD 12 .u).keys⟩
end Go.Proofs.Ytpmamacjepcdmaa
def Go.Sy.CD.L2 (d : Go.Sy.CD) : List Go.Proofs.Ytpmamacjepcdmaa.Pst:=d.rows.map Go.Proofs.Ytpmamacjepcdmaa.Pst.of
namespace Go.Proofs.Ytpmamacjepcdmaa
open Go Go.Sy Go.RowKit
set_option linter.unusedSimpArgs false
set_option linter.unusedVariables false
end Go.Proofs.Ytpmamacjepcdmaa

namespace Go.Proofs.Ytpmamacjepcdmaa
open Go Go.Sy Go.RowKit
set_option linter.unusedSimpArgs false
set_option linter.unusedVariables false
def kM : SK:=⟨32,[.sl 32 [.int .i64,.int .i64,.int .i64,.int .i64],.int .i64]⟩
theorem Jr {d0 d1 d2 d3 d4 d5 d6 d7 d8 d9 d10 d11 d12 : CD} (h0 : CD.ok (.int .i64) d0) (h1 : CD.ok (.int .i64) d1) (h2 : CD.ok (.int .i64) d2) (h3 : CD.ok (.int .i64) d3) (h4 : CD.ok (.int .i64) d4) (h5 : CD.ok (.int .i64) d5) (h6 : CD.ok (.int .i64) d6) (h7 : CD.ok (.int .i64) d7) (h8 : CD.ok (.int .i64) d8) (h9 : CD.ok (.int .i64) d9) (h10 : CD.ok (.int .i64) d10) (h11 : CD.ok (.int .i64) d11) (h12 : CD.ok (.sl 16 [.int .i64,.int .i64]) d12) :
  ∃ p : Pst,d0=.i p.task∧d1=.i p.c.kind∧d2=.i p.c.k.a∧d3=.i p.c.k.b∧d4=.i p.c.time∧d5=.i p.c.bucket∧d6=.i p.c.slot∧d7=.i p.fr∧d8=.i p.to∧d9=.i p.e∧d10=.i p.slot∧d11=.i p.n∧d12=bS p.keys∧p.keys.length * 16≤140737488355328:=by
 obtain ⟨a,rfl⟩:=ok_int h0
 obtain ⟨c,rfl,rfl,rfl,rfl,rfl,rfl⟩:=kR h1 h2 h3 h4 h5 h6
 obtain ⟨b,rfl⟩:=ok_int h7
 obtain ⟨d,rfl⟩:=ok_int h8
 obtain ⟨e,rfl⟩:=ok_int h9
 obtain ⟨f,rfl⟩:=ok_int h10
 obtain ⟨g,rfl⟩:=ok_int h11
 obtain ⟨k,rfl,hk⟩:=AI h12
 exact ⟨⟨a,c,b,d,e,f,g,k⟩,rfl,rfl,rfl,rfl,rfl,rfl,rfl,rfl,rfl,rfl,rfl,rfl,rfl,hk⟩
theorem HT (p : Pst) (l : List CD) : Pst.of (.i p.task :: .i p.c.kind :: .i p.c.k.a :: .i p.c.k.b :: .i p.c.time :: .i p.c.bucket :: .i p.c.slot :: .i p.fr :: .i p.to :: .i p.e :: .i p.slot :: .i p.n :: bS p.keys :: l)=p:=by
 obtain ⟨a,⟨k,⟨x,y⟩,t,u,v⟩,b,c,d,e,f,g⟩:=p
 simp only [Pst.of,List.getD_cons_zero,List.getD_cons_succ,List.drop_succ_cons,List.drop_zero,CD.aR,jf,Cal.of,Key.of]
def findF : List cI→Key→Option cI
 | [],_=>none
 | f :: l,k=>if f.k=k then some f else findF l k
theorem II {l : List cI} {i : Nat} (k : Key) (h : i < l.length) : findF (l.drop i) k=if (l.getD i default).k=k then some (l.getD i default) else findF (l.drop (i + 1)) k:=by
 rw [dL h];rfl
theorem IJ {l : List cI} {i : Nat} (k : Key) (h : l.length≤i) : findF (l.drop i) k=none:=by
 rw [List.drop_eq_nil_of_le h];rfl
def HV (t : Int) : Option cI→Bool
 | some f=>decide (t < f.till)
 | none=>false
def I7 (s : Int) : Option cI→Bool
 | some f=>decide (f.slot=s)
 | none=>false
def JG : Option cI→Option cI→Bool
 | some f,some g=>decide (f.slot≠g.slot)
 | some _,none=>true
 | none,_=>false
def HR (p : Pst) (a b : Option cI) (t u : Int) : Bool :=
 if p.c.kind=1 then (if p.e=0 then HV t a && I7 p.slot a || HV u b && I7 p.slot b else !HV t a || !HV u b)
 else if p.c.kind=2 then (if p.e=0 then a.isNone && I7 p.slot b else if p.e=6 then a.isSome || b.isSome else true)
 else if p.c.kind=3 then (if p.e=0 then JG a b else a.isNone || b.isNone)
 else true
def J3 : Option cI→List CD
 | some f=>[.i f.k.a,.i f.k.b,.i f.slot,.i f.till,.b true]
 | none=>[.i 0,.i 0,.i 0,.i 0,.b false]
def s211 : Sig:=⟨[.agg [.fz kW,.int .i64],.agg [.int .i64,.int .i64]],[.agg [.int .i64,.int .i64,.int .i64,.int .i64],.one (.bool)]⟩
def d211 : DC:=⟨s211,fun _=>True,fun l=>J3 (findF (l.getD 0 .u).Gf (Key.of (l.drop 2)))⟩
def l211 : List (Nat × Ct):=[]
noncomputable def z211 : Cx:={ T:=ttA,C:=sigs l211,F:=[(85,Try.f85),(216,Try.f216)],hints:=[⟨85,2,false,[(8,.lt)],[],[],[],0,0,false⟩],sig:=s211}
def t211 : Tree :=
 (.loop 4 [.int .i64] [.int 0]
 (.ite (.lt (.var 5) (.len (.var 0)))
 (.need (.le (.int 0) (.var 5))
 (.ite (.and (.eq (.cell (.var 0) (.var 5) 0) (.var 2)) (.and (.eq (.cell (.var 0) (.var 5) 1) (.var 3)) (.bool true)))
 (.ite (.lt (.var 5) (.int 0))
 (.ret [.int 0,.int 0,.int 0,.int 0,.bool false])
 (.ret [.cell (.var 0) (.var 5) 0,.cell (.var 0) (.var 5) 1,.cell (.var 0) (.var 5) 2,.cell (.var 0) (.var 5) 3,.bool true]))
 (.need (.fit (.add (.var 5) (.int 1)))
 (.back 4 [.add (.var 5) (.int 1)]))))
 (.ret [.int 0,.int 0,.int 0,.int 0,.bool false])))
theorem run211 : run z211 6000 [.code (Try.f211.body.getD .skip),.fin (bt z211 Try.f211.results.toList 50)] { fn:=211,tmps:=z211.sig.aM ++ List.replicate (Try.f211.ntmps - z211.sig.aM.length) (.v (.one .undef)),stk:=[],h:=z211.sig.h0,nx:=z211.sig.ins.length,known:=[]}=t211:=by kernel_rfl
theorem ok211 : cB Try.prog 211 d211.ct:=by
 refine aD (d:=d211) (Z:=z211) (Γ:=gam l211) (fn:=Try.f211) (c:=Try.f211.body.getD .skip) (bg tok mixed all_nil (dX (c:=Try.f85.body.getD .skip) Try.func85 (by kernel_rfl) (by kernel_rfl) (dX (c:=Try.f216.body.getD .skip) Try.func216 (by kernel_rfl) (by kernel_rfl) bh))) Try.func211 (by kernel_rfl) (by kernel_rfl) rfl run211 fun E hk hp=>?_
 obtain ⟨hk0,hk1,hk2,hk3,_⟩:=hk
 obtain ⟨l,e0,b0⟩:=HG (d:=E 0) hk0
 have b0 : l.length * 32≤140737488355328:=b0
 obtain ⟨x,e1⟩:=ok_int (d:=E 1) hk1
 obtain ⟨k,e2,e3⟩:=vM (d0:=E 2) (d1:=E 3) hk2 hk3
 have el : aH E d211.sig.ins.length=[eM l,.i x,.i k.a,.i k.b]:=by
  show [E 0,E 1,E 2,E 3]=_
  rw [e0,e1,e2,e3]
 rw [el] at hp
 rw [el]
 rw [Env.bJ el]
 clear el e0 e1 e2 e3
 simp only [d211,List.getD_cons_zero,List.drop_succ_cons,List.drop_zero,G6,jK,eZ]
 unfold t211
 refine bO (fun ds=>∃ i : Nat,ds=[.i i]∧i≤l.length∧findF l k=findF (l.drop i) k) (fun ds=>l.length - (ds.getD 0 .u).int.toNat) ⟨0,rfl,by omega,rfl⟩ ?_
 rintro ds - ⟨i,rfl,hi,he⟩
 refine G0 (fun h1=>?_) (fun h1=>aj ?_)
 rotate_left
 ·simp only [nrm,xdn,reduceIte,Nat.reduceLT,Nat.reduceSub,Nat.reduceAdd,iT] at h1 ⊢
  rw [IJ k (by omega)] at he
  rw [he];rfl
 simp only [nrm,xdn,reduceIte,Nat.reduceLT,Nat.reduceSub,Nat.reduceAdd,iT] at h1
 rw [II k (by omega)] at he
 refine ag (by simp only [nrm,xdn,reduceIte,Nat.reduceLT,Nat.reduceSub,Nat.reduceAdd];omega) (G0 (fun h2=>?_) (fun h2=>?_))
 ·simp only [nrm,xdn,reduceIte,Nat.reduceLT,Nat.reduceSub,Nat.reduceAdd,Hb,Ha,Int.toNat_natCast] at h2
  have h2 : (l.getD i default).k=k:=AW (j:=(l.getD i default).k) (k:=k) h2
  rw [if_pos h2] at he
  refine G0 (fun hn=>?_) (fun _=>aj ?_)
  ·simp only [nrm,xdn,reduceIte,Nat.reduceLT,Nat.reduceSub,Nat.reduceAdd] at hn
   omega
  ·have c : ∀ o,((eM l).rows.getD i []).getD o .u=(l.getD i default).row.getD o .u:=fun o=>dh cI.row l i o (by omega)
   simp only [nrm,xdn,reduceIte,Nat.reduceLT,Nat.reduceSub,Nat.reduceAdd,Int.toNat_natCast,c,he]
   rfl
 ·simp only [nrm,xdn,reduceIte,Nat.reduceLT,Nat.reduceSub,Nat.reduceAdd,Hb,Ha,Int.toNat_natCast] at h2
  have h2 : (l.getD i default).k≠k:=AY (j:=(l.getD i default).k) (k:=k) h2
  rw [if_neg h2] at he
  refine G1 (by simp only [nrm,xdn,reduceIte,Nat.reduceLT,Nat.reduceSub,Nat.reduceAdd];omega) (aV ⟨⟨i + 1,?_,by omega,he⟩,?_⟩)
  ·simp only [nrm,xdn,reduceIte,Nat.reduceLT,Nat.reduceSub,Nat.reduceAdd];rfl
  ·simp only [nrm,xdn,reduceIte,Nat.reduceLT,Nat.reduceSub,Nat.reduceAdd];omega
def s174 : Sig:=⟨[.agg [.int .i64,.int .i64,.int .i64,.int .i64,.int .i64,.int .i64,.int .i64,.int .i64,.int .i64,.int .i64,.int .i64,.int .i64,.fz kK],.agg [.fz kW,.int .i64],.agg [.fz kW,.int .i64]],[.one (.bool)]⟩
def d174 : DC:=⟨s174,fun _=>True,fun l=>[.b (HR (Pst.of l) (findF (l.getD 13 .u).Gf (Pst.of l).c.k) (findF (l.getD 15 .u).Gf (Pst.of l).c.k) (l.getD 14 .u).int (l.getD 16 .u).int)]⟩
def l174 : List (Nat × Ct):=[(211,d211.ct)]
def z174 : Cx:={ T:=ttA,C:=sigs l174,F:=[],hints:=[],sig:=s174}
def t174 : Tree :=
 (.call 211 [.var 13,.var 14,.var 2,.var 3] 17
 (.call 211 [.var 15,.var 16,.var 2,.var 3] 22
 (.ite (.eq (.var 1) (.int 1))
 (.ite (.eq (.var 9) (.int 0))
 (.ite (.var 26)
 (.ite (.eq (.var 24) (.var 10))
 (.ite (.lt (.var 16) (.var 25))
 (.ret [.bool true])
 (.ite (.var 21)
 (.ite (.eq (.var 19) (.var 10))
 (.ret [.lt (.var 14) (.var 20)])
 (.ret [.bool false]))
 (.ret [.bool false])))
 (.ite (.var 21)
 (.ite (.eq (.var 19) (.var 10))
 (.ret [.lt (.var 14) (.var 20)])
 (.ret [.bool false]))
 (.ret [.bool false])))
 (.ite (.var 21)
 (.ite (.eq (.var 19) (.var 10))
 (.ret [.lt (.var 14) (.var 20)])
 (.ret [.bool false]))
 (.ret [.bool false])))
 (.ite (.not (.var 26))
 (.ret [.bool true])
 (.ite (.le (.var 25) (.var 16))
 (.ret [.bool true])
 (.ite (.not (.var 21))
 (.ret [.bool true])
 (.ret [.le (.var 20) (.var 14)])))))
 (.ite (.eq (.var 1) (.int 2))
 (.ite (.eq (.var 9) (.int 0))
 (.ite (.not (.var 21))
 (.ite (.var 26)
 (.ret [.eq (.var 24) (.var 10)])
 (.ret [.bool false]))
 (.ret [.bool false]))
 (.ite (.eq (.var 9) (.int 6))
 (.ite (.var 26)
 (.ret [.bool true])
 (.ret [.var 21]))
 (.ret [.bool true])))
 (.ite (.eq (.var 1) (.int 3))
 (.ite (.eq (.var 9) (.int 0))
 (.ite (.var 21)
 (.ite (.not (.var 26))
 (.ret [.bool true])
 (.ret [.not (.eq (.var 19) (.var 24))]))
 (.ret [.bool false]))
 (.ite (.not (.var 26))
 (.ret [.bool true])
 (.ret [.not (.var 21)])))
 (.ret [.bool true]))))))
theorem run174 : run z174 6000 [.code (Try.f174.body.getD .skip),.fin (bt z174 Try.f174.results.toList 50)] { fn:=174,tmps:=z174.sig.aM ++ List.replicate (Try.f174.ntmps - z174.sig.aM.length) (.v (.one .undef)),stk:=[],h:=z174.sig.h0,nx:=z174.sig.ins.length,known:=[]}=t174:=by kernel_rfl
theorem ok174 : cB Try.prog 174 d174.ct:=by
 refine aD (d:=d174) (Z:=z174) (Γ:=gam l174) (fn:=Try.f174) (c:=Try.f174.body.getD .skip) (bg tok mixed (all_cons ok211 all_nil) bh) Try.func174 (by kernel_rfl) (by kernel_rfl) rfl run174 fun E hk hp=>?_
 obtain ⟨hk0,hk1,hk2,hk3,hk4,hk5,hk6,hk7,hk8,hk9,hk10,hk11,hk12,hk13,hk14,hk15,hk16,_⟩:=hk
 obtain ⟨p,e0,e1,e2,e3,e4,e5,e6,e7,e8,e9,e10,e11,e12,b12⟩:=Jr (d0:=E 0) (d1:=E 1) (d2:=E 2) (d3:=E 3) (d4:=E 4) (d5:=E 5) (d6:=E 6) (d7:=E 7) (d8:=E 8) (d9:=E 9) (d10:=E 10) (d11:=E 11) (d12:=E 12) hk0 hk1 hk2 hk3 hk4 hk5 hk6 hk7 hk8 hk9 hk10 hk11 hk12
 obtain ⟨l,e13,b13⟩:=HG (d:=E 13) hk13
 have b13 : l.length * 32≤140737488355328:=b13
 obtain ⟨x,e14⟩:=ok_int (d:=E 14) hk14
 obtain ⟨l2,e15,b15⟩:=HG (d:=E 15) hk15
 have b15 : l2.length * 32≤140737488355328:=b15
 obtain ⟨x2,e16⟩:=ok_int (d:=E 16) hk16
 have el : aH E d174.sig.ins.length=[.i p.task,.i p.c.kind,.i p.c.k.a,.i p.c.k.b,.i p.c.time,.i p.c.bucket,.i p.c.slot,.i p.fr,.i p.to,.i p.e,.i p.slot,.i p.n,bS p.keys,eM l,.i x,eM l2,.i x2]:=by
  show [E 0,E 1,E 2,E 3,E 4,E 5,E 6,E 7,E 8,E 9,E 10,E 11,E 12,E 13,E 14,E 15,E 16]=_
  rw [e0,e1,e2,e3,e4,e5,e6,e7,e8,e9,e10,e11,e12,e13,e14,e15,e16]
 rw [el] at hp
 rw [el]
 rw [Env.bJ el]
 clear el e0 e1 e2 e3 e4 e5 e6 e7 e8 e9 e10 e11 e12 e13 e14 e15 e16
 simp only [d174,HT,List.getD_cons_zero,List.getD_cons_succ,G6,CD.aR]
 obtain ⟨a,ha⟩ : ∃ a,findF l p.c.k=a:=⟨_,rfl⟩
 obtain ⟨b,hb⟩ : ∃ b,findF l2 p.c.k=b:=⟨_,rfl⟩
 rw [ha,hb]
 unfold t174
 refine ai d211 (J3 a) rfl trivial (by simp only [nrm,xdn,reduceIte,Nat.reduceLT,Nat.reduceSub,Nat.reduceAdd,d211,List.drop_succ_cons,List.drop_zero,G6,jK,eZ,ha]) (ai d211 (J3 b) rfl trivial (by simp only [nrm,xdn,reduceIte,Nat.reduceLT,Nat.reduceSub,Nat.reduceAdd,d211,List.drop_succ_cons,List.drop_zero,G6,jK,eZ,hb]) ?_)
 clear ha hb
 cases a <;> cases b <;> simp only [J3]
 all_goals repeat' (first | refine G0 (fun h=>?_) (fun h=>?_) <;> simp only [nrm,xdn,reduceIte,Nat.reduceLT,Nat.reduceSub,Nat.reduceAdd] at h | refine aj ?_)
 all_goals try simp_all [nrm,xdn,HR,HV,I7,JG]
 all_goals first | rfl | omega | (rw [Bool.eq_iff_iff];simp;try omega)
def s204 : Sig:=⟨[.agg [.int .i64,.int .i64,.int .i64,.int .i64,.int .i64,.int .i64,.int .i64,.int .i64,.int .i64,.int .i64,.int .i64,.int .i64,.fz kK],.one (.fz kW),.one (.int .i64),.one (.fz kW),.one (.int .i64)],[.one (.bool)]⟩
def d204 : DC:=⟨s204,fun _=>True,fun l=>[.b (HR (Pst.of l) (findF (l.getD 13 .u).Gf (Pst.of l).c.k) (findF (l.getD 15 .u).Gf (Pst.of l).c.k) (l.getD 14 .u).int (l.getD 16 .u).int)]⟩
def l204 : List (Nat × Ct):=[]
noncomputable def z204 : Cx:={ T:=ttA,C:=sigs l204,F:=[(213,Try.f213),(214,Try.f214)],hints:=[⟨213,2,false,[(8,.lt)],[],[],[],0,0,false⟩],sig:=s204}
def t204 : Tree :=
 (.loop 17 [.int .i64] [.int 0]
 (.ite (.lt (.var 18) (.len (.var 13)))
 (.need (.le (.int 0) (.var 18))
 (.ite (.and (.eq (.cell (.var 13) (.var 18) 0) (.var 2)) (.and (.eq (.cell (.var 13) (.var 18) 1) (.var 3)) (.bool true)))
 (.loop 19 [.int .i64] [.int 0]
 (.ite (.lt (.var 20) (.len (.var 15)))
 (.need (.le (.int 0) (.var 20))
 (.ite (.and (.eq (.cell (.var 15) (.var 20) 0) (.var 2)) (.and (.eq (.cell (.var 15) (.var 20) 1) (.var 3)) (.bool true)))
 (.ite (.eq (.var 1) (.int 1))
 (.ite (.eq (.var 9) (.int 0))
 (.ite (.lt (.var 14) (.cell (.var 13) (.var 18) 3))
 (.ite (.eq (.cell (.var 13) (.var 18) 2) (.var 10))
 (.ret [.bool true])
 (.ite (.lt (.var 16) (.cell (.var 15) (.var 20) 3))
 (.ret [.eq (.cell (.var 15) (.var 20) 2) (.var 10)])
 (.ret [.bool false])))
 (.ite (.lt (.var 16) (.cell (.var 15) (.var 20) 3))
 (.ret [.eq (.cell (.var 15) (.var 20) 2) (.var 10)])
 (.ret [.bool false])))
 (.ite (.not (.lt (.var 14) (.cell (.var 13) (.var 18) 3)))
 (.ret [.bool true])
 (.ret [.not (.lt (.var 16) (.cell (.var 15) (.var 20) 3))])))
 (.ite (.eq (.var 1) (.int 2))
 (.ite (.eq (.var 9) (.int 0))
 (.ret [.bool false])
 (.ite (.eq (.var 9) (.int 6))
 (.ret [.bool true])
 (.ret [.bool true])))
 (.ite (.eq (.var 1) (.int 3))
 (.ite (.eq (.var 9) (.int 0))
 (.ret [.not (.eq (.cell (.var 13) (.var 18) 2) (.cell (.var 15) (.var 20) 2))])
 (.ret [.bool false]))
 (.ret [.bool true]))))
 (.need (.fit (.add (.var 20) (.int 1)))
 (.back 19 [.add (.var 20) (.int 1)]))))
 (.ite (.eq (.var 1) (.int 1))
 (.ite (.eq (.var 9) (.int 0))
 (.ite (.lt (.var 14) (.cell (.var 13) (.var 18) 3))
 (.ite (.eq (.cell (.var 13) (.var 18) 2) (.var 10))
 (.ret [.bool true])
 (.ret [.bool false]))
 (.ret [.bool false]))
 (.ite (.not (.lt (.var 14) (.cell (.var 13) (.var 18) 3)))
 (.ret [.bool true])
 (.ret [.bool true])))
 (.ite (.eq (.var 1) (.int 2))
 (.ite (.eq (.var 9) (.int 0))
 (.ret [.bool false])
 (.ite (.eq (.var 9) (.int 6))
 (.ret [.bool true])
 (.ret [.bool true])))
 (.ite (.eq (.var 1) (.int 3))
 (.ite (.eq (.var 9) (.int 0))
 (.ret [.bool true])
 (.ret [.bool true]))
 (.ret [.bool true]))))))
 (.need (.fit (.add (.var 18) (.int 1)))
 (.back 17 [.add (.var 18) (.int 1)]))))
 (.loop 19 [.int .i64] [.int 0]
 (.ite (.lt (.var 20) (.len (.var 15)))
 (.need (.le (.int 0) (.var 20))
 (.ite (.and (.eq (.cell (.var 15) (.var 20) 0) (.var 2)) (.and (.eq (.cell (.var 15) (.var 20) 1) (.var 3)) (.bool true)))
 (.ite (.eq (.var 1) (.int 1))
 (.ite (.eq (.var 9) (.int 0))
 (.ite (.lt (.var 16) (.cell (.var 15) (.var 20) 3))
 (.ret [.eq (.cell (.var 15) (.var 20) 2) (.var 10)])
 (.ret [.bool false]))
 (.ret [.bool true]))
 (.ite (.eq (.var 1) (.int 2))
 (.ite (.eq (.var 9) (.int 0))
 (.ret [.eq (.cell (.var 15) (.var 20) 2) (.var 10)])
 (.ite (.eq (.var 9) (.int 6))
 (.ret [.bool true])
 (.ret [.bool true])))
 (.ite (.eq (.var 1) (.int 3))
 (.ite (.eq (.var 9) (.int 0))
 (.ret [.bool false])
 (.ret [.bool true]))
 (.ret [.bool true]))))
 (.need (.fit (.add (.var 20) (.int 1)))
 (.back 19 [.add (.var 20) (.int 1)]))))
 (.ite (.eq (.var 1) (.int 1))
 (.ite (.eq (.var 9) (.int 0))
 (.ret [.bool false])
 (.ret [.bool true]))
 (.ite (.eq (.var 1) (.int 2))
 (.ite (.eq (.var 9) (.int 0))
 (.ret [.bool false])
 (.ite (.eq (.var 9) (.int 6))
 (.ret [.bool false])
 (.ret [.bool true])))
 (.ite (.eq (.var 1) (.int 3))
 (.ite (.eq (.var 9) (.int 0))
 (.ret [.bool false])
 (.ret [.bool true]))
 (.ret [.bool true]))))))))
theorem run204 : run z204 6000 [.code (Try.f204.body.getD .skip),.fin (bt z204 Try.f204.results.toList 50)] { fn:=204,tmps:=z204.sig.aM ++ List.replicate (Try.f204.ntmps - z204.sig.aM.length) (.v (.one .undef)),stk:=[],h:=z204.sig.h0,nx:=z204.sig.ins.length,known:=[]}=t204:=by kernel_rfl
theorem ok204 : cB Try.prog 204 d204.ct:=by
 refine aD (d:=d204) (Z:=z204) (Γ:=gam l204) (fn:=Try.f204) (c:=Try.f204.body.getD .skip) (bg tok mixed all_nil (dX (c:=Try.f213.body.getD .skip) Try.func213 (by kernel_rfl) (by kernel_rfl) (dX (c:=Try.f214.body.getD .skip) Try.func214 (by kernel_rfl) (by kernel_rfl) bh))) Try.func204 (by kernel_rfl) (by kernel_rfl) rfl run204 fun E hk hp=>?_
 obtain ⟨hk0,hk1,hk2,hk3,hk4,hk5,hk6,hk7,hk8,hk9,hk10,hk11,hk12,hk13,hk14,hk15,hk16,_⟩:=hk
 obtain ⟨p,e0,e1,e2,e3,e4,e5,e6,e7,e8,e9,e10,e11,e12,b12⟩:=Jr (d0:=E 0) (d1:=E 1) (d2:=E 2) (d3:=E 3) (d4:=E 4) (d5:=E 5) (d6:=E 6) (d7:=E 7) (d8:=E 8) (d9:=E 9) (d10:=E 10) (d11:=E 11) (d12:=E 12) hk0 hk1 hk2 hk3 hk4 hk5 hk6 hk7 hk8 hk9 hk10 hk11 hk12
 obtain ⟨l,e13,b13⟩:=HG (d:=E 13) hk13
 have b13 : l.length * 32≤140737488355328:=b13
 obtain ⟨x,e14⟩:=ok_int (d:=E 14) hk14
 obtain ⟨l2,e15,b15⟩:=HG (d:=E 15) hk15
 have b15 : l2.length * 32≤140737488355328:=b15
 obtain ⟨x2,e16⟩:=ok_int (d:=E 16) hk16
 have el : aH E d204.sig.ins.length=[.i p.task,.i p.c.kind,.i p.c.k.a,.i p.c.k.b,.i p.c.time,.i p.c.bucket,.i p.c.slot,.i p.fr,.i p.to,.i p.e,.i p.slot,.i p.n,bS p.keys,eM l,.i x,eM l2,.i x2]:=by
  show [E 0,E 1,E 2,E 3,E 4,E 5,E 6,E 7,E 8,E 9,E 10,E 11,E 12,E 13,E 14,E 15,E 16]=_
  rw [e0,e1,e2,e3,e4,e5,e6,e7,e8,e9,e10,e11,e12,e13,e14,e15,e16]
 rw [el] at hp
 rw [el]
 rw [Env.bJ el]
 clear el e0 e1 e2 e3 e4 e5 e6 e7 e8 e9 e10 e11 e12 e13 e14 e15 e16
 simp only [d204,HT,List.getD_cons_zero,List.getD_cons_succ,G6,CD.aR]
 unfold t204
 refine bO (fun ds=>∃ i : Nat,ds=[.i i]∧i≤l.length∧findF l p.c.k=findF (l.drop i) p.c.k) (fun ds=>l.length - (ds.getD 0 .u).int.toNat) ⟨0,rfl,by omega,rfl⟩ ?_
 rintro ds - ⟨i,rfl,hi,ha⟩
 refine G0 (fun h1=>?_) (fun h1=>?_)
 rotate_left
 ·simp only [nrm,xdn,reduceIte,Nat.reduceLT,Nat.reduceSub,Nat.reduceAdd,iT] at h1
  rw [IJ p.c.k (by omega)] at ha
  have eC2 : True:=trivial
  have eC3 : True:=trivial
  refine bO (fun ds=>∃ i : Nat,ds=[.i i]∧i≤l2.length∧findF l2 p.c.k=findF (l2.drop i) p.c.k) (fun ds=>l2.length - (ds.getD 0 .u).int.toNat) ⟨0,rfl,by omega,rfl⟩ ?_
  rintro ds - ⟨j,rfl,hj,hb⟩
  refine G0 (fun g1=>?_) (fun g1=>?_)
  rotate_left
  ·simp only [nrm,xdn,reduceIte,Nat.reduceLT,Nat.reduceSub,Nat.reduceAdd,iT] at g1
   rw [IJ p.c.k (by omega)] at hb
   rw [ha,hb]
   clear ha hb
   have fC2 : True:=trivial
   have fC3 : True:=trivial
   all_goals repeat' (first | refine G0 (fun h=>?_) (fun h=>?_) <;> simp only [nrm,xdn,reduceIte,Nat.reduceLT,Nat.reduceSub,Nat.reduceAdd,eC2,eC3,fC2,fC3] at h | refine aj ?_)
   all_goals try simp_all [nrm,xdn,HR,HV,I7,JG]
   all_goals first | rfl | omega | (rw [Bool.eq_iff_iff];simp;try omega)
  simp only [nrm,xdn,reduceIte,Nat.reduceLT,Nat.reduceSub,Nat.reduceAdd,iT] at g1
  rw [II p.c.k (by omega)] at hb
  have fC2 : ((eM l2).rows.getD j []).getD 2 .u=.i (l2.getD j default).slot:=dh cI.row l2 j 2 (by omega)
  have fC3 : ((eM l2).rows.getD j []).getD 3 .u=.i (l2.getD j default).till:=dh cI.row l2 j 3 (by omega)
  refine ag (by simp only [nrm,xdn,reduceIte,Nat.reduceLT,Nat.reduceSub,Nat.reduceAdd];omega) (G0 (fun g2=>?_) (fun g2=>?_))
  ·simp only [nrm,xdn,reduceIte,Nat.reduceLT,Nat.reduceSub,Nat.reduceAdd,Hb,Ha,Int.toNat_natCast] at g2
   rw [if_pos (AW (j:=(l2.getD j default).k) (k:=p.c.k) g2)] at hb
   rw [ha,hb]
   clear ha hb g2
   generalize l2.getD j default=G at *
   all_goals repeat' (first | refine G0 (fun h=>?_) (fun h=>?_) <;> simp only [nrm,xdn,reduceIte,Nat.reduceLT,Nat.reduceSub,Nat.reduceAdd,eC2,eC3,fC2,fC3] at h | refine aj ?_)
   all_goals try simp_all [nrm,xdn,HR,HV,I7,JG]
   all_goals first | rfl | omega | (rw [Bool.eq_iff_iff];simp;try omega)
  ·simp only [nrm,xdn,reduceIte,Nat.reduceLT,Nat.reduceSub,Nat.reduceAdd,Hb,Ha,Int.toNat_natCast] at g2
   rw [if_neg (AY (j:=(l2.getD j default).k) (k:=p.c.k) g2)] at hb
   refine G1 (by simp only [nrm,xdn,reduceIte,Nat.reduceLT,Nat.reduceSub,Nat.reduceAdd];omega) (aV ⟨⟨j + 1,?_,by omega,hb⟩,?_⟩)
   ·simp only [nrm,xdn,reduceIte,Nat.reduceLT,Nat.reduceSub,Nat.reduceAdd];rfl
   ·simp only [nrm,xdn,reduceIte,Nat.reduceLT,Nat.reduceSub,Nat.reduceAdd];omega
 simp only [nrm,xdn,reduceIte,Nat.reduceLT,Nat.reduceSub,Nat.reduceAdd,iT] at h1
 rw [II p.c.k (by omega)] at ha
 have eC2 : ((eM l).rows.getD i []).getD 2 .u=.i (l.getD i default).slot:=dh cI.row l i 2 (by omega)
 have eC3 : ((eM l).rows.getD i []).getD 3 .u=.i (l.getD i default).till:=dh cI.row l i 3 (by omega)
 refine ag (by simp only [nrm,xdn,reduceIte,Nat.reduceLT,Nat.reduceSub,Nat.reduceAdd];omega) (G0 (fun h2=>?_) (fun h2=>?_))
 ·simp only [nrm,xdn,reduceIte,Nat.reduceLT,Nat.reduceSub,Nat.reduceAdd,Hb,Ha,Int.toNat_natCast] at h2
  rw [if_pos (AW (j:=(l.getD i default).k) (k:=p.c.k) h2)] at ha
  clear h2
  generalize l.getD i default=H at *
  refine bO (fun ds=>∃ i : Nat,ds=[.i i]∧i≤l2.length∧findF l2 p.c.k=findF (l2.drop i) p.c.k) (fun ds=>l2.length - (ds.getD 0 .u).int.toNat) ⟨0,rfl,by omega,rfl⟩ ?_
  rintro ds - ⟨j,rfl,hj,hb⟩
  refine G0 (fun g1=>?_) (fun g1=>?_)
  rotate_left
  ·simp only [nrm,xdn,reduceIte,Nat.reduceLT,Nat.reduceSub,Nat.reduceAdd,iT] at g1
   rw [IJ p.c.k (by omega)] at hb
   rw [ha,hb]
   clear ha hb
   have fC2 : True:=trivial
   have fC3 : True:=trivial
   all_goals repeat' (first | refine G0 (fun h=>?_) (fun h=>?_) <;> simp only [nrm,xdn,reduceIte,Nat.reduceLT,Nat.reduceSub,Nat.reduceAdd,eC2,eC3,fC2,fC3] at h | refine aj ?_)
   all_goals try simp_all [nrm,xdn,HR,HV,I7,JG]
   all_goals first | rfl | omega | (rw [Bool.eq_iff_iff];simp;try omega)
  simp only [nrm,xdn,reduceIte,Nat.reduceLT,Nat.reduceSub,Nat.reduceAdd,iT] at g1
  rw [II p.c.k (by omega)] at hb
  have fC2 : ((eM l2).rows.getD j []).getD 2 .u=.i (l2.getD j default).slot:=dh cI.row l2 j 2 (by omega)
  have fC3 : ((eM l2).rows.getD j []).getD 3 .u=.i (l2.getD j default).till:=dh cI.row l2 j 3 (by omega)
  refine ag (by simp only [nrm,xdn,reduceIte,Nat.reduceLT,Nat.reduceSub,Nat.reduceAdd];omega) (G0 (fun g2=>?_) (fun g2=>?_))
  ·simp only [nrm,xdn,reduceIte,Nat.reduceLT,Nat.reduceSub,Nat.reduceAdd,Hb,Ha,Int.toNat_natCast] at g2
   rw [if_pos (AW (j:=(l2.getD j default).k) (k:=p.c.k) g2)] at hb
   rw [ha,hb]
   clear ha hb g2
   generalize l2.getD j default=G at *
   all_goals repeat' (first | refine G0 (fun h=>?_) (fun h=>?_) <;> simp only [nrm,xdn,reduceIte,Nat.reduceLT,Nat.reduceSub,Nat.reduceAdd,eC2,eC3,fC2,fC3] at h | refine aj ?_)
   all_goals try simp_all [nrm,xdn,HR,HV,I7,JG]
   all_goals first | rfl | omega | (rw [Bool.eq_iff_iff];simp;try omega)
  ·simp only [nrm,xdn,reduceIte,Nat.reduceLT,Nat.reduceSub,Nat.reduceAdd,Hb,Ha,Int.toNat_natCast] at g2
   rw [if_neg (AY (j:=(l2.getD j default).k) (k:=p.c.k) g2)] at hb
   refine G1 (by simp only [nrm,xdn,reduceIte,Nat.reduceLT,Nat.reduceSub,Nat.reduceAdd];omega) (aV ⟨⟨j + 1,?_,by omega,hb⟩,?_⟩)
   ·simp only [nrm,xdn,reduceIte,Nat.reduceLT,Nat.reduceSub,Nat.reduceAdd];rfl
   ·simp only [nrm,xdn,reduceIte,Nat.reduceLT,Nat.reduceSub,Nat.reduceAdd];omega
 ·simp only [nrm,xdn,reduceIte,Nat.reduceLT,Nat.reduceSub,Nat.reduceAdd,Hb,Ha,Int.toNat_natCast] at h2
  rw [if_neg (AY (j:=(l.getD i default).k) (k:=p.c.k) h2)] at ha
  refine G1 (by simp only [nrm,xdn,reduceIte,Nat.reduceLT,Nat.reduceSub,Nat.reduceAdd];omega) (aV ⟨⟨i + 1,?_,by omega,ha⟩,?_⟩)
  ·simp only [nrm,xdn,reduceIte,Nat.reduceLT,Nat.reduceSub,Nat.reduceAdd];rfl
  ·simp only [nrm,xdn,reduceIte,Nat.reduceLT,Nat.reduceSub,Nat.reduceAdd];omega
end Go.Proofs.Ytpmamacjepcdmaa
