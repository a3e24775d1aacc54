import Derived.Test.YtpmamacjepcdmaaCPlayed
import Derived.Test.YtpmamacjepcdmaaCSame
namespace Go.Proofs.Ytpmamacjepcdmaa
open Go Go.Sy Go.RowKit
set_option linter.unusedSimpArgs false
set_option linter.unusedVariables false
def s144 : Sig:=⟨[.one (.fz kI),.one (.fz kI)],[.one (.bool)]⟩
def d144 : DC:=⟨s144,fun _=>True,fun l=>[.b (decide ((l.getD 0 .u).ints=(l.getD 1 .u).ints))]⟩
def l144 : List (Nat × Ct):=[]
def z144 : Cx:={ T:=ttA,C:=sigs l144,F:=[],hints:=[⟨144,4,false,[(13,.lt)],[],[],[],0,0,false⟩],sig:=s144}
def t144 : Tree :=
 (.ite (.not (.eq (.len (.var 0)) (.len (.var 1))))
 (.ret [.bool false])
 (.loop 2 [.int .i64] [.int 0]
 (.ite (.lt (.var 3) (.len (.var 0)))
 (.need (.le (.int 0) (.var 3))
 (.need (.lt (.var 3) (.len (.var 1)))
 (.ite (.not (.eq (.cell (.var 0) (.var 3) 0) (.cell (.var 1) (.var 3) 0)))
 (.ret [.bool false])
 (.need (.fit (.add (.var 3) (.int 1)))
 (.back 2 [.add (.var 3) (.int 1)])))))
 (.ret [.bool true]))))
theorem run144 : run z144 6000 [.code (Try.f144.body.getD .skip),.fin (bt z144 Try.f144.results.toList 50)] { fn:=144,tmps:=z144.sig.aM ++ List.replicate (Try.f144.ntmps - z144.sig.aM.length) (.v (.one .undef)),stk:=[],h:=z144.sig.h0,nx:=z144.sig.ins.length,known:=[]}=t144:=by kernel_rfl
theorem ok144 : cB Try.prog 144 d144.ct:=by
 refine aD (d:=d144) (Z:=z144) (Γ:=gam l144) (fn:=Try.f144) (c:=Try.f144.body.getD .skip) (bg tok mixed all_nil bh) Try.func144 (by kernel_rfl) (by kernel_rfl) rfl run144 fun E hk hp=>?_
 obtain ⟨hk0,hk1,_⟩:=hk
 obtain ⟨l,e0,b0⟩:=iL (d:=E 0) hk0
 have b0 : l.length * 8≤140737488355328:=b0
 obtain ⟨l2,e1,b1⟩:=iL (d:=E 1) hk1
 have b1 : l2.length * 8≤140737488355328:=b1
 have el : aH E d144.sig.ins.length=[af l,af l2]:=by
  show [E 0,E 1]=_
  rw [e0,e1]
 rw [el] at hp
 rw [el]
 simp only [d144,List.getD_cons_zero,List.getD_cons_succ,bY]
 unfold t144
 refine G0 (fun h=>?_) (fun h=>?_)
 ·simp only [nrm,xdn,reduceIte,Nat.reduceLT,Nat.reduceSub,Nat.reduceAdd,e0,e1,aw,Bool.not_eq_true',not_false_eq_true] at h
  refine aj ?_
  simp only [nrm,xdn,reduceIte,Nat.reduceLT,Nat.reduceSub,Nat.reduceAdd]
  rw [decide_eq_false (fun e=>h (by rw [e]))]
 ·simp only [nrm,xdn,reduceIte,Nat.reduceLT,Nat.reduceSub,Nat.reduceAdd,e0,e1,aw,Bool.not_eq_false',Int.natCast_inj] at h
  refine bO (fun ds=>∃ i : Nat,ds=[.i i]∧i≤l.length∧l.take i=l2.take i) (fun ds=>l.length - (ds.getD 0 .u).int.toNat) ⟨0,rfl,by omega,rfl⟩ ?_
  rintro ds - ⟨i,rfl,hi,ht⟩
  refine G0 (fun h1=>?_) (fun h1=>?_)
  ·simp only [nrm,xdn,reduceIte,Nat.reduceLT,Nat.reduceSub,Nat.reduceAdd,e0,aw] at h1
   refine ag (by simp only [nrm,xdn,reduceIte,Nat.reduceLT,Nat.reduceSub,Nat.reduceAdd];omega) (ag (by simp only [nrm,xdn,reduceIte,Nat.reduceLT,Nat.reduceSub,Nat.reduceAdd,e1,aw];omega) (G0 (fun h2=>?_) (fun h2=>?_)))
   ·simp only [nrm,xdn,reduceIte,Nat.reduceLT,Nat.reduceSub,Nat.reduceAdd,e0,e1,Int.toNat_natCast,aG,Bool.not_eq_true'] at h2
    refine aj ?_
    simp only [nrm,xdn,reduceIte,Nat.reduceLT,Nat.reduceSub,Nat.reduceAdd]
    rw [decide_eq_false (Ib (α:=Int) i h2)]
   ·simp only [nrm,xdn,reduceIte,Nat.reduceLT,Nat.reduceSub,Nat.reduceAdd,e0,e1,Int.toNat_natCast,aG,Bool.not_eq_false'] at h2
    refine G1 (by simp only [nrm,xdn,reduceIte,Nat.reduceLT,Nat.reduceSub,Nat.reduceAdd];omega) (aV ⟨⟨i + 1,?_,by omega,(Hz (by omega) h).2 ⟨ht,h2⟩⟩,?_⟩)
    ·simp only [nrm,xdn,reduceIte,Nat.reduceLT,Nat.reduceSub,Nat.reduceAdd];rfl
    ·simp only [nrm,xdn,reduceIte,Nat.reduceLT,Nat.reduceSub,Nat.reduceAdd];omega
  ·simp only [nrm,xdn,reduceIte,Nat.reduceLT,Nat.reduceSub,Nat.reduceAdd,e0,aw] at h1
   refine aj ?_
   simp only [nrm,xdn,reduceIte,Nat.reduceLT,Nat.reduceSub,Nat.reduceAdd]
   rw [decide_eq_true (HJ (by omega) h ht)]
def Pst.of (l : List CD) : Pst:=⟨(l.getD 0 .u).int,Cal.of (l.drop 1),(l.getD 7 .u).int,(l.getD 8 .u).int,(l.getD 9 .u).int,(l.getD 10 .u).int,(l.getD 11 .u).int,(l.getD 12 .u).keys⟩
end Go.Proofs.Ytpmamacjepcdmaa
def Go.Sy.CD.L2 (d : Go.Sy.CD) : List Go.Proofs.Ytpmamacjepcdmaa.Pst:=d.rows.map Go.Proofs.Ytpmamacjepcdmaa.Pst.of
namespace Go.Proofs.Ytpmamacjepcdmaa
open Go Go.Sy Go.RowKit
set_option linter.unusedSimpArgs false
set_option linter.unusedVariables false
theorem Ni (p : Pst) : Pst.of p.row=p:=by
 obtain ⟨a,⟨k,⟨x,y⟩,t,u,v⟩,b,c,d,e,f,g⟩:=p
 simp only [Pst.of,Pst.row,List.getD_cons_zero,List.getD_cons_succ,List.drop_succ_cons,List.drop_zero,CD.aR,jf,Cal.of,Key.of]
theorem IE (l : List Pst) : (gl l).L2=l:=by
 simp only [gl,CD.L2,CD.ax,List.map_map]
 rw [show (Pst.of ∘ Pst.row)=id from funext Ni,List.map_id]
theorem Lh {b : Nat} {d : CD} (h : CD.ok (.sl b kP.kd) d) : ∃ l,d=gl l∧l.length * b≤140737488355328:=by
 obtain ⟨⟨rows,rfl,h1,h2⟩,_⟩:=h
 obtain ⟨l,rfl⟩:=jv (f:=Pst.row) (fun row hr=>by
  obtain ⟨d0,row,rfl,g0,hr⟩:=bG hr
  obtain ⟨d1,row,rfl,g1,hr⟩:=bG hr
  obtain ⟨d2,row,rfl,g2,hr⟩:=bG hr
  obtain ⟨d3,row,rfl,g3,hr⟩:=bG hr
  obtain ⟨d4,row,rfl,g4,hr⟩:=bG hr
  obtain ⟨d5,row,rfl,g5,hr⟩:=bG hr
  obtain ⟨d6,row,rfl,g6,hr⟩:=bG hr
  obtain ⟨d7,row,rfl,g7,hr⟩:=bG hr
  obtain ⟨d8,row,rfl,g8,hr⟩:=bG hr
  obtain ⟨d9,row,rfl,g9,hr⟩:=bG hr
  obtain ⟨d10,row,rfl,g10,hr⟩:=bG hr
  obtain ⟨d11,row,rfl,g11,hr⟩:=bG hr
  obtain ⟨d12,row,rfl,g12,hr⟩:=bG hr
  have hr:=vT hr
  subst hr
  obtain ⟨n0,rfl⟩:=g0
  obtain ⟨n1,rfl⟩:=g1
  obtain ⟨n2,rfl⟩:=g2
  obtain ⟨n3,rfl⟩:=g3
  obtain ⟨n4,rfl⟩:=g4
  obtain ⟨n5,rfl⟩:=g5
  obtain ⟨n6,rfl⟩:=g6
  obtain ⟨n7,rfl⟩:=g7
  obtain ⟨n8,rfl⟩:=g8
  obtain ⟨n9,rfl⟩:=g9
  obtain ⟨n10,rfl⟩:=g10
  obtain ⟨n11,rfl⟩:=g11
  obtain ⟨k,rfl,_⟩:=AI (b:=16) ⟨g12,CD.yi rfl⟩
  exact ⟨⟨n0,⟨n1,⟨n2,n3⟩,n4,n5,n6⟩,n7,n8,n9,n10,n11,k⟩,rfl⟩) h2
 exact ⟨l,rfl,by simpa using h1⟩
theorem pst_eq {t u : Pst} (a : t.task=u.task) (b : t.c.kind=u.c.kind) (c : t.c.k.a=u.c.k.a) (d : t.c.k.b=u.c.k.b) (e : t.c.time=u.c.time) (f : t.c.bucket=u.c.bucket) (g : t.c.slot=u.c.slot) (h : t.fr=u.fr) (i : t.to=u.to) (j : t.e=u.e) (k : t.slot=u.slot) (l : t.n=u.n) (m : t.keys=u.keys) : t=u:=by
 obtain ⟨_,⟨_,⟨_,_⟩,_,_,_⟩,_,_,_,_,_,_⟩:=t
 obtain ⟨_,⟨_,⟨_,_⟩,_,_,_⟩,_,_,_,_,_,_⟩:=u
 dsimp only at a b c d e f g h i j k l m
 subst a b c d e f g h i j k l m
 rfl
def s145 : Sig:=⟨[.one (.fz kP),.one (.fz kP)],[.one (.bool)]⟩
def d145 : DC:=⟨s145,fun _=>True,fun l=>[.b (decide ((l.getD 0 .u).L2=(l.getD 1 .u).L2))]⟩
def l145 : List (Nat × Ct):=[(155,d155.ct)]
noncomputable def z145 : Cx:={ T:=ttA,C:=sigs l145,F:=[(200,Try.f200),(201,Try.f201)],hints:=[⟨200,4,false,[(17,.lt)],[],[],[],0,0,false⟩],sig:=s145}
def t145 : Tree :=
 (.ite (.not (.eq (.len (.var 0)) (.len (.var 1))))
 (.ret [.bool false])
 (.loop 2 [.int .i64] [.int 0]
 (.ite (.lt (.var 3) (.len (.var 0)))
 (.need (.le (.int 0) (.var 3))
 (.need (.lt (.var 3) (.len (.var 1)))
 (.ite (.eq (.cell (.var 0) (.var 3) 0) (.cell (.var 1) (.var 3) 0))
 (.ite (.and (.eq (.cell (.var 0) (.var 3) 1) (.cell (.var 1) (.var 3) 1)) (.and (.eq (.cell (.var 0) (.var 3) 2) (.cell (.var 1) (.var 3) 2)) (.and (.eq (.cell (.var 0) (.var 3) 3) (.cell (.var 1) (.var 3) 3)) (.and (.eq (.cell (.var 0) (.var 3) 4) (.cell (.var 1) (.var 3) 4)) (.and (.eq (.cell (.var 0) (.var 3) 5) (.cell (.var 1) (.var 3) 5)) (.and (.eq (.cell (.var 0) (.var 3) 6) (.cell (.var 1) (.var 3) 6)) (.bool true)))))))
 (.ite (.eq (.cell (.var 0) (.var 3) 7) (.cell (.var 1) (.var 3) 7))
 (.ite (.eq (.cell (.var 0) (.var 3) 8) (.cell (.var 1) (.var 3) 8))
 (.ite (.eq (.cell (.var 0) (.var 3) 9) (.cell (.var 1) (.var 3) 9))
 (.ite (.eq (.cell (.var 0) (.var 3) 10) (.cell (.var 1) (.var 3) 10))
 (.ite (.eq (.cell (.var 0) (.var 3) 11) (.cell (.var 1) (.var 3) 11))
 (.call 155 [.cell (.var 0) (.var 3) 12,.cell (.var 1) (.var 3) 12] 4
 (.ite (.not (.var 4))
 (.ret [.bool false])
 (.need (.fit (.add (.var 3) (.int 1)))
 (.back 2 [.add (.var 3) (.int 1)]))))
 (.ret [.bool false]))
 (.ret [.bool false]))
 (.ret [.bool false]))
 (.ret [.bool false]))
 (.ret [.bool false]))
 (.ret [.bool false]))
 (.ret [.bool false]))))
 (.ret [.bool true]))))
theorem run145 : run z145 6000 [.code (Try.f145.body.getD .skip),.fin (bt z145 Try.f145.results.toList 50)] { fn:=145,tmps:=z145.sig.aM ++ List.replicate (Try.f145.ntmps - z145.sig.aM.length) (.v (.one .undef)),stk:=[],h:=z145.sig.h0,nx:=z145.sig.ins.length,known:=[]}=t145:=by kernel_rfl
set_option maxHeartbeats 2000000 in
theorem ok145 : cB Try.prog 145 d145.ct:=by
 refine aD (d:=d145) (Z:=z145) (Γ:=gam l145) (fn:=Try.f145) (c:=Try.f145.body.getD .skip) (bg tok mixed (all_cons ok155 all_nil) (dX (c:=Try.f200.body.getD .skip) Try.func200 (by kernel_rfl) (by kernel_rfl) (dX (c:=Try.f201.body.getD .skip) Try.func201 (by kernel_rfl) (by kernel_rfl) bh))) Try.func145 (by kernel_rfl) (by kernel_rfl) rfl run145 fun E hk hp=>?_
 obtain ⟨hk0,hk1,_⟩:=hk
 obtain ⟨l,e0,b0⟩:=Lh (d:=E 0) hk0
 have b0 : l.length * 120≤140737488355328:=b0
 obtain ⟨l2,e1,b1⟩:=Lh (d:=E 1) hk1
 have b1 : l2.length * 120≤140737488355328:=b1
 have el : aH E d145.sig.ins.length=[gl l,gl l2]:=by
  show [E 0,E 1]=_
  rw [e0,e1]
 rw [el] at hp
 rw [el]
 rw [Env.bJ el]
 clear el e0 e1
 simp only [d145,List.getD_cons_zero,List.getD_cons_succ,IE]
 unfold t145
 refine G0 (fun h1=>aj ?_) (fun h1=>?_)
 ·simp only [nrm,xdn,reduceIte,Nat.reduceLT,Nat.reduceSub,Nat.reduceAdd,qm] at h1 ⊢
  rw [decide_eq_false (fun y=>by rw [y] at h1;simp at h1)]
 simp only [nrm,xdn,reduceIte,Nat.reduceLT,Nat.reduceSub,Nat.reduceAdd,qm] at h1
 have h1 : l.length=l2.length:=Int.natCast_inj.1 (by simpa using h1)
 refine bO (fun ds=>∃ i : Nat,ds=[.i i]∧i≤l.length∧l.take i=l2.take i) (fun ds=>l.length - (ds.getD 0 .u).int.toNat) ⟨0,rfl,by omega,rfl⟩ ?_
 rintro ds - ⟨i,rfl,hi,he⟩
 refine G0 (fun hlt=>?_) (fun hge=>aj ?_)
 ·simp only [nrm,xdn,reduceIte,Nat.reduceLT,Nat.reduceSub,Nat.reduceAdd,qm] at hlt
  obtain ⟨t,ht⟩ : ∃ t,l.getD i default=t:=⟨_,rfl⟩
  obtain ⟨u,hu⟩ : ∃ u,l2.getD i default=u:=⟨_,rfl⟩
  have no : ¬ (t=u)→[CD.b false]=[CD.b (decide (l=l2))]:=fun hn=>by
   rw [decide_eq_false (fun y=>hn (by rw [← ht,← hu,y]))]
  have a0 : ((gl l).rows.getD i []).getD 0 .u=.i t.task:=by rw [AB 0 (by omega),ht];rfl
  have a1 : ((gl l).rows.getD i []).getD 1 .u=.i t.c.kind:=by rw [AB 1 (by omega),ht];rfl
  have a2 : ((gl l).rows.getD i []).getD 2 .u=.i t.c.k.a:=by rw [AB 2 (by omega),ht];rfl
  have a3 : ((gl l).rows.getD i []).getD 3 .u=.i t.c.k.b:=by rw [AB 3 (by omega),ht];rfl
  have a4 : ((gl l).rows.getD i []).getD 4 .u=.i t.c.time:=by rw [AB 4 (by omega),ht];rfl
  have a5 : ((gl l).rows.getD i []).getD 5 .u=.i t.c.bucket:=by rw [AB 5 (by omega),ht];rfl
  have a6 : ((gl l).rows.getD i []).getD 6 .u=.i t.c.slot:=by rw [AB 6 (by omega),ht];rfl
  have a7 : ((gl l).rows.getD i []).getD 7 .u=.i t.fr:=by rw [AB 7 (by omega),ht];rfl
  have a8 : ((gl l).rows.getD i []).getD 8 .u=.i t.to:=by rw [AB 8 (by omega),ht];rfl
  have a9 : ((gl l).rows.getD i []).getD 9 .u=.i t.e:=by rw [AB 9 (by omega),ht];rfl
  have a10 : ((gl l).rows.getD i []).getD 10 .u=.i t.slot:=by rw [AB 10 (by omega),ht];rfl
  have a11 : ((gl l).rows.getD i []).getD 11 .u=.i t.n:=by rw [AB 11 (by omega),ht];rfl
  have a12 : ((gl l).rows.getD i []).getD 12 .u=bS t.keys:=by rw [AB 12 (by omega),ht];rfl
  have b0' : ((gl l2).rows.getD i []).getD 0 .u=.i u.task:=by rw [AB 0 (by omega),hu];rfl
  have b1' : ((gl l2).rows.getD i []).getD 1 .u=.i u.c.kind:=by rw [AB 1 (by omega),hu];rfl
  have b2' : ((gl l2).rows.getD i []).getD 2 .u=.i u.c.k.a:=by rw [AB 2 (by omega),hu];rfl
  have b3' : ((gl l2).rows.getD i []).getD 3 .u=.i u.c.k.b:=by rw [AB 3 (by omega),hu];rfl
  have b4' : ((gl l2).rows.getD i []).getD 4 .u=.i u.c.time:=by rw [AB 4 (by omega),hu];rfl
  have b5' : ((gl l2).rows.getD i []).getD 5 .u=.i u.c.bucket:=by rw [AB 5 (by omega),hu];rfl
  have b6' : ((gl l2).rows.getD i []).getD 6 .u=.i u.c.slot:=by rw [AB 6 (by omega),hu];rfl
  have b7' : ((gl l2).rows.getD i []).getD 7 .u=.i u.fr:=by rw [AB 7 (by omega),hu];rfl
  have b8' : ((gl l2).rows.getD i []).getD 8 .u=.i u.to:=by rw [AB 8 (by omega),hu];rfl
  have b9' : ((gl l2).rows.getD i []).getD 9 .u=.i u.e:=by rw [AB 9 (by omega),hu];rfl
  have b10' : ((gl l2).rows.getD i []).getD 10 .u=.i u.slot:=by rw [AB 10 (by omega),hu];rfl
  have b11' : ((gl l2).rows.getD i []).getD 11 .u=.i u.n:=by rw [AB 11 (by omega),hu];rfl
  have b12' : ((gl l2).rows.getD i []).getD 12 .u=bS u.keys:=by rw [AB 12 (by omega),hu];rfl
  refine ag (by simp only [nrm,xdn,reduceIte,Nat.reduceLT,Nat.reduceSub,Nat.reduceAdd];omega) (ag (by simp only [nrm,xdn,reduceIte,Nat.reduceLT,Nat.reduceSub,Nat.reduceAdd,qm];omega) ?_)
  refine G0 (fun h2=>?_) (fun h2=>?_)
  rotate_left
  ·skip
   refine aj ?_
   simp only [nrm,xdn,reduceIte,Nat.reduceLT,Nat.reduceSub,Nat.reduceAdd,Int.toNat_natCast,a0,a1,a2,a3,a4,a5,a6,a7,a8,a9,a10,a11,a12,b0',b1',b2',b3',b4',b5',b6',b7',b8',b9',b10',b11',b12'] at h2 ⊢
   exact no fun y=>by rw [y] at h2;simp at h2
  simp only [nrm,xdn,reduceIte,Nat.reduceLT,Nat.reduceSub,Nat.reduceAdd,Int.toNat_natCast,a0,a1,a2,a3,a4,a5,a6,a7,a8,a9,a10,a11,a12,b0',b1',b2',b3',b4',b5',b6',b7',b8',b9',b10',b11',b12'] at h2
  refine G0 (fun h3=>?_) (fun h2=>?_)
  rotate_left
  ·skip
   refine aj ?_
   simp only [nrm,xdn,reduceIte,Nat.reduceLT,Nat.reduceSub,Nat.reduceAdd,Int.toNat_natCast,a0,a1,a2,a3,a4,a5,a6,a7,a8,a9,a10,a11,a12,b0',b1',b2',b3',b4',b5',b6',b7',b8',b9',b10',b11',b12'] at h2 ⊢
   exact no fun y=>by rw [y] at h2;simp at h2
  simp only [nrm,xdn,reduceIte,Nat.reduceLT,Nat.reduceSub,Nat.reduceAdd,Int.toNat_natCast,a0,a1,a2,a3,a4,a5,a6,a7,a8,a9,a10,a11,a12,b0',b1',b2',b3',b4',b5',b6',b7',b8',b9',b10',b11',b12',Bool.and_eq_true,decide_eq_true_eq,beq_iff_eq] at h3
  refine G0 (fun h4=>?_) (fun h2=>?_)
  rotate_left
  ·skip
   refine aj ?_
   simp only [nrm,xdn,reduceIte,Nat.reduceLT,Nat.reduceSub,Nat.reduceAdd,Int.toNat_natCast,a0,a1,a2,a3,a4,a5,a6,a7,a8,a9,a10,a11,a12,b0',b1',b2',b3',b4',b5',b6',b7',b8',b9',b10',b11',b12'] at h2 ⊢
   exact no fun y=>by rw [y] at h2;simp at h2
  simp only [nrm,xdn,reduceIte,Nat.reduceLT,Nat.reduceSub,Nat.reduceAdd,Int.toNat_natCast,a0,a1,a2,a3,a4,a5,a6,a7,a8,a9,a10,a11,a12,b0',b1',b2',b3',b4',b5',b6',b7',b8',b9',b10',b11',b12'] at h4
  refine G0 (fun h5=>?_) (fun h2=>?_)
  rotate_left
  ·skip
   refine aj ?_
   simp only [nrm,xdn,reduceIte,Nat.reduceLT,Nat.reduceSub,Nat.reduceAdd,Int.toNat_natCast,a0,a1,a2,a3,a4,a5,a6,a7,a8,a9,a10,a11,a12,b0',b1',b2',b3',b4',b5',b6',b7',b8',b9',b10',b11',b12'] at h2 ⊢
   exact no fun y=>by rw [y] at h2;simp at h2
  simp only [nrm,xdn,reduceIte,Nat.reduceLT,Nat.reduceSub,Nat.reduceAdd,Int.toNat_natCast,a0,a1,a2,a3,a4,a5,a6,a7,a8,a9,a10,a11,a12,b0',b1',b2',b3',b4',b5',b6',b7',b8',b9',b10',b11',b12'] at h5
  refine G0 (fun h6=>?_) (fun h2=>?_)
  rotate_left
  ·skip
   refine aj ?_
   simp only [nrm,xdn,reduceIte,Nat.reduceLT,Nat.reduceSub,Nat.reduceAdd,Int.toNat_natCast,a0,a1,a2,a3,a4,a5,a6,a7,a8,a9,a10,a11,a12,b0',b1',b2',b3',b4',b5',b6',b7',b8',b9',b10',b11',b12'] at h2 ⊢
   exact no fun y=>by rw [y] at h2;simp at h2
  simp only [nrm,xdn,reduceIte,Nat.reduceLT,Nat.reduceSub,Nat.reduceAdd,Int.toNat_natCast,a0,a1,a2,a3,a4,a5,a6,a7,a8,a9,a10,a11,a12,b0',b1',b2',b3',b4',b5',b6',b7',b8',b9',b10',b11',b12'] at h6
  refine G0 (fun h7=>?_) (fun h2=>?_)
  rotate_left
  ·skip
   refine aj ?_
   simp only [nrm,xdn,reduceIte,Nat.reduceLT,Nat.reduceSub,Nat.reduceAdd,Int.toNat_natCast,a0,a1,a2,a3,a4,a5,a6,a7,a8,a9,a10,a11,a12,b0',b1',b2',b3',b4',b5',b6',b7',b8',b9',b10',b11',b12'] at h2 ⊢
   exact no fun y=>by rw [y] at h2;simp at h2
  simp only [nrm,xdn,reduceIte,Nat.reduceLT,Nat.reduceSub,Nat.reduceAdd,Int.toNat_natCast,a0,a1,a2,a3,a4,a5,a6,a7,a8,a9,a10,a11,a12,b0',b1',b2',b3',b4',b5',b6',b7',b8',b9',b10',b11',b12'] at h7
  refine G0 (fun h8=>?_) (fun h2=>?_)
  rotate_left
  ·skip
   refine aj ?_
   simp only [nrm,xdn,reduceIte,Nat.reduceLT,Nat.reduceSub,Nat.reduceAdd,Int.toNat_natCast,a0,a1,a2,a3,a4,a5,a6,a7,a8,a9,a10,a11,a12,b0',b1',b2',b3',b4',b5',b6',b7',b8',b9',b10',b11',b12'] at h2 ⊢
   exact no fun y=>by rw [y] at h2;simp at h2
  simp only [nrm,xdn,reduceIte,Nat.reduceLT,Nat.reduceSub,Nat.reduceAdd,Int.toNat_natCast,a0,a1,a2,a3,a4,a5,a6,a7,a8,a9,a10,a11,a12,b0',b1',b2',b3',b4',b5',b6',b7',b8',b9',b10',b11',b12'] at h8
  refine ai d155 [.b (decide (t.keys=u.keys))] rfl trivial (by simp only [nrm,xdn,reduceIte,Nat.reduceLT,Nat.reduceSub,Nat.reduceAdd,Int.toNat_natCast,a0,a1,a2,a3,a4,a5,a6,a7,a8,a9,a10,a11,a12,b0',b1',b2',b3',b4',b5',b6',b7',b8',b9',b10',b11',b12',d155,jf]) (G0 (fun h9=>aj ?_) (fun h9=>?_))
  ·simp only [nrm,xdn,reduceIte,Nat.reduceLT,Nat.reduceSub,Nat.reduceAdd] at h9 ⊢
   exact no fun y=>by rw [y] at h9;simp at h9
  simp only [nrm,xdn,reduceIte,Nat.reduceLT,Nat.reduceSub,Nat.reduceAdd] at h9
  have h9 : t.keys=u.keys:=by simpa using h9
  obtain ⟨k1,k2,k3,k4,k5,k6,-⟩:=h3
  have htu : t=u:=pst_eq h2 k1 k2 k3 k4 k5 k6 h4 h5 h6 h7 h8 h9
  refine G1 (by simp only [nrm,xdn,reduceIte,Nat.reduceLT,Nat.reduceSub,Nat.reduceAdd];omega) (aV ⟨⟨i + 1,?_,by omega,(Hz (by omega) h1).2 ⟨he,by rw [ht,hu,htu]⟩⟩,?_⟩)
  ·simp only [nrm,xdn,reduceIte,Nat.reduceLT,Nat.reduceSub,Nat.reduceAdd];rfl
  ·simp only [nrm,xdn,reduceIte,Nat.reduceLT,Nat.reduceSub,Nat.reduceAdd];omega
 ·simp only [nrm,xdn,reduceIte,Nat.reduceLT,Nat.reduceSub,Nat.reduceAdd,qm] at hge ⊢
  rw [decide_eq_true (HJ (by omega) h1 he)]
def M2 (l : List (Int × Int)) : CD:=.l (l.map fun p=>[.i p.1,.i p.2])
def JV (x : Int) : List (Int × Int)→Int
 | []=>0
 | p :: l=>if p.1=x then p.2 else JV x l
theorem Ll (x : Int) : ∀ l : List (Int × Int),((CD.find (M2 l).rows [.i x] 1).getD []).getD 1 (.i 0)=.i (JV x l)
 | []=>rfl
 | (a,b) :: l=>by
  have ih:=Ll x l
  simp only [M2,CD.ax,CD.find,List.map_cons,List.find?_cons,List.take_succ_cons,List.take_zero,kJ,CD.eqs,Bool.and_true,JV] at ih ⊢
  by_cases h : a=x
  ·subst h;simp
  ·have : (a ==x)=false:=by simpa using h
   rw [this,if_neg h]
   exact ih
theorem J4 (a b : Int) (l : List (Int × Int)) : CD.l ([[.i a,.i b]] ++ (M2 l).rows)=M2 ((a,b) :: l):=rfl
def s143 : Sig:=⟨[.agg [.fz kS,.fz kI,.fz kI,.fz kI,.int .i64,.fz kT],.one (.fz kQ)],[.agg [.fz kS,.fz kI,.fz kI,.fz kI,.int .i64,.fz kT],.one (.own 22 kI),.one (.own 93 kP)]⟩
def d143 : DC:=⟨s143,fun l=>bL (Wrd.of l)=0∧(l.getD 6 .u).uN.length≤300,fun l=>(BK (Wrd.of l) (l.getD 6 .u).uN).1.w.tM ++ [af (BK (Wrd.of l) (l.getD 6 .u).uN).1.said,gl (BK (Wrd.of l) (l.getD 6 .u).uN).1.past]⟩
def l143 : List (Nat × Ct):=[(158,d158.ct)]
def z143 : Cx:={ T:=ttA,C:=sigs l143,F:=[],hints:=[⟨143,5,false,[(18,.lt),(7,.own 22 kI),(8,.own 93 kP)],[(0,0,.fz kS),(0,1,.fz kI),(0,2,.fz kI),(0,3,.fz kI),(0,4,.lt),(0,5,.fz kT)],[],[0],0,0,false⟩],sig:=s143}
def t143 : Tree :=
 (.loop 7 [.sl 8 [.int .i64],.sl 120 [.int .i64,.int .i64,.int .i64,.int .i64,.int .i64,.int .i64,.int .i64,.int .i64,.int .i64,.int .i64,.int .i64,.int .i64,.sl 16 [.int .i64,.int .i64]],.int .i64,.sl 48 [.int .i64,.int .i64,.int .i64,.int .i64,.bool,.int .i64],.sl 8 [.int .i64],.sl 8 [.int .i64],.sl 8 [.int .i64],.int .i64,.sl 160 [.bool,.int .i64,.int .i64,.int .i64,.int .i64,.int .i64,.int .i64,.int .i64,.int .i64,.int .i64,.int .i64,.int .i64,.sl 16 [.int .i64,.int .i64],.bool,.int .i64,.sl 8 [.int .i64]],.sl 0 [.int .i64,.int .i64]] [.nil,.nil,.int 0,.var 0,.var 1,.var 2,.var 3,.var 4,.var 5,.nil]
 (.ite (.lt (.var 10) (.len (.var 6)))
 (.need (.le (.int 0) (.var 10))
 (.call 158 [.var 11,.var 12,.var 13,.var 14,.var 15,.var 16,.cell (.var 6) (.var 10) 0,.cell (.var 6) (.var 10) 1,.cell (.var 6) (.var 10) 2,.cell (.var 6) (.var 10) 3,.cell (.var 6) (.var 10) 4,.cell (.var 6) (.var 10) 5,.cell (.var 6) (.var 10) 6,.cell (.var 6) (.var 10) 7,.cell (.var 6) (.var 10) 8] 18
 (.need (.le (.add (.len (.var 8)) (.int 1)) (.int 17592186044416))
 (.ite (.not (.eq (.var 24) (.int 0)))
 (.need (.fit (.add (.var 10) (.int 1)))
 (.back 7 [.app (.var 8) (.cons (.var 24) .row0),.var 9,.add (.var 10) (.int 1),.var 11,.var 12,.var 13,.var 14,.var 15,.var 16,.var 17]))
 (.ite (.cell (.var 6) (.var 10) 2)
 (.need (.fit (.add (.var 10) (.int 1)))
 (.back 7 [.app (.var 8) (.cons (.var 24) .row0),.var 9,.add (.var 10) (.int 1),.var 18,.var 19,.var 20,.var 21,.var 22,.var 23,.var 17]))
 (.ite (.not (.cell (.var 6) (.var 10) 1))
 (.need (.fit (.add (.var 10) (.int 1)))
 (.back 7 [.app (.var 8) (.cons (.var 24) .row0),.var 9,.add (.var 10) (.int 1),.var 18,.var 19,.var 20,.var 21,.var 22,.var 23,.app (.cons (.cell (.var 6) (.var 10) 0) (.cons (.var 10) .row0)) (.var 17)]))
 (.need (.le (.int 0) (.cell (.var 6) (.var 10) 0))
 (.need (.lt (.cell (.var 6) (.var 10) 0) (.len (.var 23)))
 (.ite (.not (.cell (.var 23) (.cell (.var 6) (.var 10) 0) 0))
 (.need (.le (.add (.len (.var 9)) (.int 1)) (.int 1172812402961))
 (.need (.fit (.add (.var 10) (.int 1)))
 (.back 7 [.app (.var 8) (.cons (.var 24) .row0),.app (.var 9) (.cons (.cell (.var 6) (.var 10) 0) (.cons (.cell (.var 23) (.cell (.var 6) (.var 10) 0) 1) (.cons (.cell (.var 23) (.cell (.var 6) (.var 10) 0) 2) (.cons (.cell (.var 23) (.cell (.var 6) (.var 10) 0) 3) (.cons (.cell (.var 23) (.cell (.var 6) (.var 10) 0) 4) (.cons (.cell (.var 23) (.cell (.var 6) (.var 10) 0) 5) (.cons (.cell (.var 23) (.cell (.var 6) (.var 10) 0) 6) (.cons (.look (.var 17) (.cons (.cell (.var 6) (.var 10) 0) .row0) (.int 0) 1 1) (.cons (.var 10) (.cons (.cell (.var 23) (.cell (.var 6) (.var 10) 0) 14) (.cons (.cell (.var 23) (.cell (.var 6) (.var 10) 0) 10) (.cons (.cell (.var 23) (.cell (.var 6) (.var 10) 0) 11) (.cons (.cell (.var 23) (.cell (.var 6) (.var 10) 0) 12) .row0))))))))))))),.add (.var 10) (.int 1),.var 18,.var 19,.var 20,.var 21,.var 22,.var 23,.var 17])))
 (.need (.fit (.add (.var 10) (.int 1)))
 (.back 7 [.app (.var 8) (.cons (.var 24) .row0),.var 9,.add (.var 10) (.int 1),.var 18,.var 19,.var 20,.var 21,.var 22,.var 23,.var 17])))))))))))
 (.ret [.var 11,.var 12,.var 13,.var 14,.var 15,.var 16,.var 8,.var 9])))
theorem run143 : run z143 6000 [.code (Try.f143.body.getD .skip),.fin (bt z143 Try.f143.results.toList 50)] { fn:=143,tmps:=z143.sig.aM ++ List.replicate (Try.f143.ntmps - z143.sig.aM.length) (.v (.one .undef)),stk:=[],h:=z143.sig.h0,nx:=z143.sig.ins.length,known:=[]}=t143:=by kernel_rfl
set_option maxHeartbeats 4000000 in
theorem ok143 : cB Try.prog 143 d143.ct:=by
 refine aD (d:=d143) (Z:=z143) (Γ:=gam l143) (fn:=Try.f143) (c:=Try.f143.body.getD .skip) (bg tok mixed (all_cons ok158 all_nil) bh) Try.func143 (by kernel_rfl) (by kernel_rfl) rfl run143 fun E hk hp=>?_
 obtain ⟨hk0,hk1,hk2,hk3,hk4,hk5,hk6,_⟩:=hk
 obtain ⟨m,e0,e1,e2,e3,e4,b0,b1,b2,b3⟩:=cv (d0:=E 0) (d1:=E 1) (d2:=E 2) (d3:=E 3) (d4:=E 4) hk0 hk1 hk2 hk3 hk4
 obtain ⟨ts,e5,hts,b5⟩:=hU (d:=E 5) hk5
 have b5 : ts.length * 160≤140737488355328:=b5
 obtain ⟨l,e6,b6⟩:=Dc (d:=E 6) hk6
 have b6 : l.length * 64≤140737488355328:=b6
 have el : aH E d143.sig.ins.length=[au m.slots,af m.heads,af m.free,af m.locks,.i m.now,G2 ts,eD l]:=by
  show [E 0,E 1,E 2,E 3,E 4,E 5,E 6]=_
  rw [e0,e1,e2,e3,e4,e5,e6]
 rw [el] at hp
 rw [el]
 rw [Env.bJ el]
 clear el e0 e1 e2 e3 e4 e5 e6
 have hown : ∀ t∈ts,t.own=false:=fun t ht=>(hts t ht).1
 simp only [d143,kr _ _ _ _ _ hown,aA,List.getD_cons_zero,List.getD_cons_succ,oZ] at hp ⊢
 obtain ⟨h,h1⟩:=hp
 unfold BK
 rw [if_neg (fun y=>y h),if_neg (by omega)]
 have hw:=EB h
 unfold t143
 obtain ⟨s0,hs0⟩ : ∃ s0 : qE,(⟨Wrd.bm ⟨m,ts⟩,[],[],List.replicate ts.length 0⟩ : qE)=s0:=⟨_,rfl⟩
 have hlen : (Wrd.bm ⟨m,ts⟩).ts.length=ts.length:=kb _
 show Tree.den _ (fun outs=>outs=(w6 l 0 ⟨Wrd.bm ⟨m,ts⟩,[],[],List.replicate ts.length 0⟩).w.tM ++ [af (w6 l 0 ⟨Wrd.bm ⟨m,ts⟩,[],[],List.replicate ts.length 0⟩).said,gl (w6 l 0 ⟨Wrd.bm ⟨m,ts⟩,[],[],List.replicate ts.length 0⟩).past]) _ _ _
 rw [hs0]
 refine bO (fun ds=>∃ (i : Nat) (s : qE) (M : List (Int × Int)),ds=[af s.said,gl s.past,.i i,au s.w.m.slots,af s.w.m.heads,af s.w.m.free,af s.w.m.locks,.i s.w.m.now,G2 s.w.ts,M2 M]∧Ns l s0 i s∧∀ k : Nat,k < s.began.length→JV k M=s.began.getD k 0) (fun ds=>l.length - (ds.getD 2 .u).int.toNat) ⟨0,s0,[],?_,?_,?_⟩ ?_
 ·simp only [nrm,xdn,reduceIte,Nat.reduceLT,Nat.reduceSub,Nat.reduceAdd]
  rw [← hs0,← Im ts];rfl
 ·subst hs0
  exact ⟨Nat.zero_le _,rfl,hw.bm.mono (by omega),rfl,Nat.le_refl _,by simp [hlen]⟩
 ·subst hs0
  intro k hk
  have hk : k < ts.length:=by simpa using hk
  simp [JV,List.getD_eq_getElem?_getD,hk]
 rintro ds - ⟨i,s,M,rfl,hI,hB⟩
 obtain ⟨I1,I2,I3,I4,I5,I6⟩:=id hI
 refine G0 (fun hlt=>?_) (fun hge=>aj ?_)
 ·simp only [nrm,xdn,reduceIte,Nat.reduceLT,Nat.reduceSub,Nat.reduceAdd,nc] at hlt
  obtain ⟨x,hx⟩ : ∃ x,l.getD i default=x:=⟨_,rfl⟩
  have hcell : ∀ o,((eD l).rows.getD i []).getD o .u=x.row.getD o .u:=fun o=>by rw [← hx];exact dh Pik.row l i o (by omega)
  have c0 : ((eD l).rows.getD i []).getD 0 .u=.i x.task:=hcell 0
  have c1 : ((eD l).rows.getD i []).getD 1 .u=.b x.step:=hcell 1
  have c2 : ((eD l).rows.getD i []).getD 2 .u=.b x.tick:=hcell 2
  have c3 : ((eD l).rows.getD i []).getD 3 .u=.i x.c.kind:=hcell 3
  have c4 : ((eD l).rows.getD i []).getD 4 .u=.i x.c.k.a:=hcell 4
  have c5 : ((eD l).rows.getD i []).getD 5 .u=.i x.c.k.b:=hcell 5
  have c6 : ((eD l).rows.getD i []).getD 6 .u=.i x.c.time:=hcell 6
  have c7 : ((eD l).rows.getD i []).getD 7 .u=.i x.c.bucket:=hcell 7
  have c8 : ((eD l).rows.getD i []).getD 8 .u=.i x.c.slot:=hcell 8
  have hv:=w5 hI (show i < l.length by omega)
  rw [hx] at hv
  have hsw : (⟨s.w.m,s.w.ts⟩ : Wrd)=s.w:=rfl
  have hpl:=sN s.w.bm x
  rw [kb] at hpl
  have hpt:=BP (w:=s.w.bm) (x:=x)
  rw [kb] at hpt
  obtain ⟨q,hq⟩ : ∃ q,bN s.w.bm x=q:=⟨_,rfl⟩
  have hS : kH i x s=if q.2≠0 then { s with said:=s.said ++ [q.2]} else if x.tick=true then ⟨q.1,s.said ++ [q.2],s.past,s.began⟩ else if x.step=false then ⟨q.1,s.said ++ [q.2],s.past,s.began.set x.task.toNat i⟩ else if (tsk q.1 x.task).busy=false then ⟨q.1,s.said ++ [q.2],s.past ++ [sO q.1 x.task (s.began.getD x.task.toNat 0) i],s.began⟩ else ⟨q.1,s.said ++ [q.2],s.past,s.began⟩:=by rw [← hq];rfl
  rw [hq] at hpl hpt
  obtain ⟨r,hr⟩ : ∃ r,Iv s.w x=r:=⟨_,rfl⟩
  have hr1 : q.2≠0→r=(Wrd.none,q.2):=fun y=>by rw [← hr];unfold Iv;rw [hq,if_pos y]
  have hr2 : q.2=0→r=(q.1,0):=fun y=>by rw [← hr];unfold Iv;rw [hq,if_neg (fun z=>z y)]
  have hrl : (Iv s.w.G4 x)=r:=by rw [← hr];unfold Iv;rw [iQ]
  refine ag (by simp only [nrm,xdn,reduceIte,Nat.reduceLT,Nat.reduceSub,Nat.reduceAdd];omega) (ai d158 [au r.1.m.slots,af r.1.m.heads,af r.1.m.free,af r.1.m.locks,.i r.1.m.now,G2 r.1.ts,.i r.2] rfl ?_ ?_ (ag (by simp only [nrm,xdn,reduceIte,Nat.reduceLT,Nat.reduceSub,Nat.reduceAdd,aw];omega) ?_))
  ·simp only [nrm,xdn,reduceIte,Nat.reduceLT,Nat.reduceSub,Nat.reduceAdd,d158,fY,aA,hsw,iQ]
   exact I3.in (by omega)
  ·simp only [nrm,xdn,reduceIte,Nat.reduceLT,Nat.reduceSub,Nat.reduceAdd,Int.toNat_natCast,c0,c1,c2,c3,c4,c5,c6,c7,c8,d158,fY,aA,hsw,List.drop_succ_cons,List.drop_zero,oe,cz]
   show (Iv s.w.G4 x).1.tM ++ [.i (Iv s.w.G4 x).2]=_
   rw [hrl];rfl
  by_cases h2 : q.2=0
  rotate_left
  ·have hr:=hr1 h2
   subst hr
   rw [if_pos h2] at hS
   refine G0 (fun _=>?_) (fun hn=>?_)
   ·skip
    refine G1 (by simp only [nrm,xdn,reduceIte,Nat.reduceLT,Nat.reduceSub,Nat.reduceAdd];omega) (aV ⟨⟨i + 1,kH i x s,M,?_,hv,?_⟩,?_⟩)
    ·rw [hS]
     simp only [nrm,xdn,reduceIte,Nat.reduceLT,Nat.reduceSub,Nat.reduceAdd,Int.toNat_natCast,c0,c1,c2,c3,c4,c5,c6,c7,c8,CD.row,List.headD_cons,CD.ax,gV,J4]
     rfl
    ·rw [hS];exact hB
    ·simp only [nrm,xdn,reduceIte,Nat.reduceLT,Nat.reduceSub,Nat.reduceAdd];omega
   ·simp only [nrm,xdn,reduceIte,Nat.reduceLT,Nat.reduceSub,Nat.reduceAdd] at hn
    exact absurd (by simpa using hn) h2
  have hr:=hr2 h2
  subst hr
  rw [if_neg (fun y=>y h2),h2] at hS
  refine G0 (fun hn=>?_) (fun _=>?_)
  ·simp only [nrm,xdn,reduceIte,Nat.reduceLT,Nat.reduceSub,Nat.reduceAdd] at hn
   simp at hn
  refine G0 (fun h3=>?_) (fun h3=>?_)
  ·simp only [nrm,xdn,reduceIte,Nat.reduceLT,Nat.reduceSub,Nat.reduceAdd,Int.toNat_natCast,c2] at h3
   rw [if_pos h3] at hS
   refine G1 (by simp only [nrm,xdn,reduceIte,Nat.reduceLT,Nat.reduceSub,Nat.reduceAdd];omega) (aV ⟨⟨i + 1,kH i x s,M,?_,hv,?_⟩,?_⟩)
   ·rw [hS]
    simp only [nrm,xdn,reduceIte,Nat.reduceLT,Nat.reduceSub,Nat.reduceAdd,Int.toNat_natCast,c0,c1,c2,c3,c4,c5,c6,c7,c8,CD.row,List.headD_cons,CD.ax,gV,J4]
    rfl
   ·rw [hS];exact hB
   ·simp only [nrm,xdn,reduceIte,Nat.reduceLT,Nat.reduceSub,Nat.reduceAdd];omega
  simp only [nrm,xdn,reduceIte,Nat.reduceLT,Nat.reduceSub,Nat.reduceAdd,Int.toNat_natCast,c2] at h3
  rw [if_neg (by rw [h3];exact Bool.false_ne_true)] at hS
  have ht:=hpt h2 h3
  refine G0 (fun h4=>?_) (fun h4=>?_)
  ·simp only [nrm,xdn,reduceIte,Nat.reduceLT,Nat.reduceSub,Nat.reduceAdd,Int.toNat_natCast,c1,Bool.not_eq_true'] at h4
   rw [if_pos h4] at hS
   have hB : ∀ k : Nat,k < (s.began.set x.task.toNat (i : Int)).length→JV k ((x.task,(i : Int)) :: M)=(s.began.set x.task.toNat (i : Int)).getD k 0:=fun k hk=>by
    rw [List.length_set] at hk
    simp only [JV]
    by_cases hxk : x.task=k
    ·rw [if_pos hxk,hxk,Int.toNat_natCast]
     simp [List.getD_eq_getElem?_getD,hk]
    ·rw [if_neg hxk,hB k hk,List.getD_eq_getElem?_getD,List.getD_eq_getElem?_getD,List.getElem?_set_ne (by omega)]
   refine G1 (by simp only [nrm,xdn,reduceIte,Nat.reduceLT,Nat.reduceSub,Nat.reduceAdd];omega) (aV ⟨⟨i + 1,kH i x s,(x.task,(i : Int)) :: M,?_,hv,?_⟩,?_⟩)
   ·rw [hS]
    simp only [nrm,xdn,reduceIte,Nat.reduceLT,Nat.reduceSub,Nat.reduceAdd,Int.toNat_natCast,c0,c1,c2,c3,c4,c5,c6,c7,c8,CD.row,List.headD_cons,CD.ax,gV,J4]
    rfl
   ·rw [hS];exact hB
   ·simp only [nrm,xdn,reduceIte,Nat.reduceLT,Nat.reduceSub,Nat.reduceAdd];omega
  simp only [nrm,xdn,reduceIte,Nat.reduceLT,Nat.reduceSub,Nat.reduceAdd,Int.toNat_natCast,c1,Bool.not_eq_false'] at h4
  rw [if_neg (by rw [h4];exact fun y=>Bool.noConfusion y)] at hS
  have hlt' : x.task.toNat < q.1.ts.length:=by omega
  obtain ⟨t,htt⟩ : ∃ t,tsk q.1 x.task=t:=⟨_,rfl⟩
  have htt' : q.1.ts.getD x.task.toNat default=t:=htt
  have e0 : ((G2 q.1.ts).rows.getD x.task.toNat []).getD 0 .u=.b t.busy:=by rw [iB 0 hlt',htt'];rfl
  have e1 : ((G2 q.1.ts).rows.getD x.task.toNat []).getD 1 .u=.i t.f.c.kind:=by rw [iB 1 hlt',htt'];rfl
  have e2 : ((G2 q.1.ts).rows.getD x.task.toNat []).getD 2 .u=.i t.f.c.k.a:=by rw [iB 2 hlt',htt'];rfl
  have e3 : ((G2 q.1.ts).rows.getD x.task.toNat []).getD 3 .u=.i t.f.c.k.b:=by rw [iB 3 hlt',htt'];rfl
  have e4 : ((G2 q.1.ts).rows.getD x.task.toNat []).getD 4 .u=.i t.f.c.time:=by rw [iB 4 hlt',htt'];rfl
  have e5 : ((G2 q.1.ts).rows.getD x.task.toNat []).getD 5 .u=.i t.f.c.bucket:=by rw [iB 5 hlt',htt'];rfl
  have e6 : ((G2 q.1.ts).rows.getD x.task.toNat []).getD 6 .u=.i t.f.c.slot:=by rw [iB 6 hlt',htt'];rfl
  have e10 : ((G2 q.1.ts).rows.getD x.task.toNat []).getD 10 .u=.i t.f.slot:=by rw [iB 10 hlt',htt'];rfl
  have e11 : ((G2 q.1.ts).rows.getD x.task.toNat []).getD 11 .u=.i t.f.n:=by rw [iB 11 hlt',htt'];rfl
  have e12 : ((G2 q.1.ts).rows.getD x.task.toNat []).getD 12 .u=bS t.f.keys:=by rw [iB 12 hlt',htt'];rfl
  have e14 : ((G2 q.1.ts).rows.getD x.task.toNat []).getD 14 .u=.i t.f.e:=by rw [iB 14 hlt',htt'];rfl
  have hb1 : JV x.task M=s.began.getD x.task.toNat 0:=by
   have:=hB x.task.toNat (by omega)
   rwa [Int.toNat_of_nonneg ht.1] at this
  refine ag (by simp only [nrm,xdn,reduceIte,Nat.reduceLT,Nat.reduceSub,Nat.reduceAdd,Int.toNat_natCast,c0];omega) (ag (by simp only [nrm,xdn,reduceIte,Nat.reduceLT,Nat.reduceSub,Nat.reduceAdd,Int.toNat_natCast,c0,cJ];omega) (G0 (fun h5=>?_) (fun h5=>?_)))
  ·simp only [nrm,xdn,reduceIte,Nat.reduceLT,Nat.reduceSub,Nat.reduceAdd,Int.toNat_natCast,c0,e0,Bool.not_eq_true'] at h5
   rw [htt,if_pos h5] at hS
   have hp : sO q.1 x.task (s.began.getD x.task.toNat 0) i=⟨x.task,t.f.c,s.began.getD x.task.toNat 0,i,t.f.e,t.f.slot,t.f.n,t.f.keys⟩:=by unfold sO;rw [htt]
   have ha : (gl s.past).rows ++ [[.i x.task,.i t.f.c.kind,.i t.f.c.k.a,.i t.f.c.k.b,.i t.f.c.time,.i t.f.c.bucket,.i t.f.c.slot,.i (s.began.getD x.task.toNat 0),.i (i : Int),.i t.f.e,.i t.f.slot,.i t.f.n,bS t.f.keys]]=(gl (s.past ++ [sO q.1 x.task (s.began.getD x.task.toNat 0) i])).rows:=by rw [hp];simp [gl,Pst.row]
   refine ag (by simp only [nrm,xdn,reduceIte,Nat.reduceLT,Nat.reduceSub,Nat.reduceAdd,qm];omega) (G1 (by simp only [nrm,xdn,reduceIte,Nat.reduceLT,Nat.reduceSub,Nat.reduceAdd];omega) (aV ⟨⟨i + 1,kH i x s,M,?_,hv,?_⟩,?_⟩))
   ·rw [hS]
    simp only [nrm,xdn,reduceIte,Nat.reduceLT,Nat.reduceSub,Nat.reduceAdd,Int.toNat_natCast,c0,e1,e2,e3,e4,e5,e6,e10,e11,e12,e14,CD.row,List.headD_cons,CD.ax,Ll,hb1,ha,gV]
    rfl
   ·rw [hS];exact hB
   ·simp only [nrm,xdn,reduceIte,Nat.reduceLT,Nat.reduceSub,Nat.reduceAdd];omega
  ·simp only [nrm,xdn,reduceIte,Nat.reduceLT,Nat.reduceSub,Nat.reduceAdd,Int.toNat_natCast,c0,e0,Bool.not_eq_false'] at h5
   rw [htt,if_neg (by rw [h5];exact fun y=>Bool.noConfusion y)] at hS
   refine G1 (by simp only [nrm,xdn,reduceIte,Nat.reduceLT,Nat.reduceSub,Nat.reduceAdd];omega) (aV ⟨⟨i + 1,kH i x s,M,?_,hv,?_⟩,?_⟩)
   ·rw [hS]
    simp only [nrm,xdn,reduceIte,Nat.reduceLT,Nat.reduceSub,Nat.reduceAdd,Int.toNat_natCast,c0,c1,c2,c3,c4,c5,c6,c7,c8,CD.row,List.headD_cons,CD.ax,gV,J4]
    rfl
   ·rw [hS];exact hB
   ·simp only [nrm,xdn,reduceIte,Nat.reduceLT,Nat.reduceSub,Nat.reduceAdd];omega
 ·simp only [nrm,xdn,reduceIte,Nat.reduceLT,Nat.reduceSub,Nat.reduceAdd,nc] at hge ⊢
  rw [List.drop_eq_nil_of_le (show l.length≤i by omega)] at I2
  rw [I2]
  simp only [w6,Wrd.tM,Mem.cds,lca]
end Go.Proofs.Ytpmamacjepcdmaa
