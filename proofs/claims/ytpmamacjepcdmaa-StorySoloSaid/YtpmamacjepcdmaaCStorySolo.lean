import Derived.Test.YtpmamacjepcdmaaCSolo5
namespace Go.Proofs.Ytpmamacjepcdmaa
open Go Go.Sy Go.RowKit
set_option linter.unusedSimpArgs false
set_option linter.unusedVariables false
theorem vo {Γ : Gam} {R : List CD→Prop} {E : Env} {J : JJ} {id a b : Nat} {cur : List X} {Y Ya Yb : List CD→Prop} (h1 : id≠a) (h2 : id≠b) (h : Y (cur.map (X.den E))) : (Tree.back id cur).den Γ R E (((J.put id Y).put a Ya).put b Yb):=by
 show (((J.put id Y).put a Ya).put b Yb).b id _
 simp only [JJ.put,if_neg h1,if_neg h2,if_true]
 exact h
theorem pW {w : Wrd} (hl : w.ts.length=1) (o : Nat) : ((G2 w.ts).rows.getD 0 []).getD o .u=(tsk w 0).row.getD o .u:=dh Tsk.row w.ts 0 o (by omega)
theorem LL (l : List Cal) (n : Nat) : CD.l ((eP l).rows.take n)=eP (l.take n):=by simp only [eP,CD.ax,List.map_take]
structure AtS (x2 : Int) (L : List SF) (M : List (Int × Int)) (w : Wrd) : Prop where
 calm : Fz w
 len : w.ts.length=1
 hl : (w.m.heads.length : Int)=x2
 sol : Sol (aq w.m) L
 held : ∀ a,iD M a=(tsk w 0).held.count a
def wds (w : Wrd) : List CD:=[au w.m.slots,af w.m.heads,af w.m.free,af w.m.ae,.i w.m.now,G2 w.ts]
theorem rY {k k' : Key} : k=k'↔k.a=k'.a∧k.b=k'.b:=by
 obtain ⟨a,b⟩:=k
 obtain ⟨a',b'⟩:=k'
 simp
def In45 (V : Wrd) (ds : List CD) : Prop:=∃ (L' : List SF) (M' : List (Int × Int)),ds=[dP L',Dv M']∧Sol (aq V.m) L'∧∀ a,iD M' a=(tsk V 0).held.count a
def s35 : Sig:=⟨[.one (.int .i64),.one (.int .i64),.one (.fz kC),.one (.fz kI)],[.one (.bool)]⟩
def d35 : DC:=⟨s35,fun _=>True,fun _=>[.b true]⟩
def l35 : List (Nat × Ct):=[(78,d78.ct),(79,d79.ct),(140,d140.ct),(137,d137.ct),(149,d149.ct),(97,d97.ct),(134,d134.ct)]
noncomputable def z35 : Cx:={ T:=ttA,C:=sigs l35,F:=[(146,Try.f146),(147,Try.f147),(148,Try.f148),(150,Try.f150),(151,Try.f151),(152,Try.f152),(153,Try.f153)],hints:=[⟨35,8,false,[(47,.lt)],[(1,0,.fz kS),(1,1,.fz kI),(1,2,.fz kI),(1,3,.fz kI),(1,4,.lt),(1,5,.fz kT),(2,0,.own 148 kL)],[],[0],0,0,false⟩,⟨152,3,false,[(17,.lt)],[],[],[1],0,0,false⟩,⟨152,10,false,[(37,.lt)],[],[],[],0,0,false⟩,⟨35,14,false,[],[(1,0,.fz kS),(1,1,.fz kI),(1,2,.fz kI),(1,3,.fz kI),(1,4,.lt),(1,5,.fz kT)],[],[],0,0,true⟩,⟨35,23,false,[(23,.li)],[],[],[],0,0,true⟩,⟨35,51,false,[],[(2,0,.own 148 kL)],[],[0],0,0,true⟩,⟨147,2,false,[(8,.lt)],[],[],[],0,0,false⟩,⟨150,5,false,[(5,.lt),(6,.lt),(0,.own 148 kL)],[(2,0,.own 148 kL)],[],[],0,0,false⟩],sig:=s35}
def t35 : Tree :=
 (.call 78 [.var 0,.var 1,.int 1] 4
 (.call 79 [] 11
 (.ite (.not (.var 11))
 (.call 79 [] 12
 (.ret [.var 12]))
 (.ite (.not (.eq (.var 10) (.int 0)))
 (.call 79 [] 12
 (.ret [.var 12]))
 (.need (.le (.int 0) (.min (.len (.var 2)) (.int 40)))
 (.need (.le (.min (.len (.var 2)) (.int 40)) (.len (.var 2)))
 (.need (.clean (.var 9) 15)
 (.loop 12 [.int .i64,.sl 48 [.int .i64,.int .i64,.int .i64,.int .i64,.bool,.int .i64],.sl 8 [.int .i64],.sl 8 [.int .i64],.sl 8 [.int .i64],.int .i64,.sl 160 [.bool,.int .i64,.int .i64,.int .i64,.int .i64,.int .i64,.int .i64,.int .i64,.int .i64,.int .i64,.int .i64,.int .i64,.sl 16 [.int .i64,.int .i64],.bool,.int .i64,.sl 8 [.int .i64]],.sl 24 [.int .i64,.int .i64,.int .i64],.sl 0 [.int .i64,.int .i64]] [.int 0,.var 4,.var 5,.var 6,.var 7,.var 8,.shuts (.var 9) 15,.nil,.nil]
 (.ite (.lt (.var 13) (.len (.take (.min (.len (.var 2)) (.int 40)) (.var 2))))
 (.need (.le (.int 0) (.var 13))
 (.join 22 [.sl 48 [.int .i64,.int .i64,.int .i64,.int .i64,.bool,.int .i64],.sl 8 [.int .i64],.sl 8 [.int .i64],.sl 8 [.int .i64],.int .i64,.sl 160 [.bool,.int .i64,.int .i64,.int .i64,.int .i64,.int .i64,.int .i64,.int .i64,.int .i64,.int .i64,.int .i64,.int .i64,.sl 16 [.int .i64,.int .i64],.bool,.int .i64,.sl 8 [.int .i64]]]
 (.ite (.lt (.int 0) (.len (.var 3)))
 (.need (.not (.eq (.len (.var 3)) (.int 0)))
 (.need (.le (.int 0) (.tmod (.var 13) (.len (.var 3))))
 (.need (.lt (.tmod (.var 13) (.len (.var 3))) (.len (.var 3)))
 (.ite (.eq (.tmod (.cell (.var 3) (.tmod (.var 13) (.len (.var 3))) 0) (.int 3)) (.int 0))
 (.call 140 [.var 14,.var 15,.var 16,.var 17,.var 18,.var 19,.int 0,.bool false,.bool true,.int 0,.int 0,.int 0,.int 0,.int 0,.int 0] 23
 (.ite (.eq (.var 29) (.int 0))
 (.need (.clean (.var 28) 15)
 (.back 22 [.var 23,.var 24,.var 25,.var 26,.var 27,.shuts (.var 28) 15]))
 (.need (.clean (.var 28) 15)
 (.back 22 [.var 14,.var 15,.var 16,.var 17,.var 18,.var 19]))))
 (.back 22 [.var 14,.var 15,.var 16,.var 17,.var 18,.var 19])))))
 (.back 22 [.var 14,.var 15,.var 16,.var 17,.var 18,.var 19]))
 (.call 140 [.var 23,.var 24,.var 25,.var 26,.var 27,.var 28,.int 0,.bool false,.bool false,.cell (.take (.min (.len (.var 2)) (.int 40)) (.var 2)) (.var 13) 0,.cell (.take (.min (.len (.var 2)) (.int 40)) (.var 2)) (.var 13) 1,.cell (.take (.min (.len (.var 2)) (.int 40)) (.var 2)) (.var 13) 2,.cell (.take (.min (.len (.var 2)) (.int 40)) (.var 2)) (.var 13) 3,.cell (.take (.min (.len (.var 2)) (.int 40)) (.var 2)) (.var 13) 4,.cell (.take (.min (.len (.var 2)) (.int 40)) (.var 2)) (.var 13) 5] 29
 (.ite (.not (.eq (.var 35) (.int 0)))
 (.need (.fit (.add (.var 13) (.int 1)))
 (.need (.clean (.var 34) 15)
 (.back 12 [.add (.var 13) (.int 1),.var 23,.var 24,.var 25,.var 26,.var 27,.var 28,.var 20,.var 21])))
 (.need (.clean (.var 34) 15)
 (.call 137 [.var 29,.var 30,.var 31,.var 32,.var 33,.shuts (.var 34) 15,.int 80] 36
 (.ite (.not (.var 42))
 (.ret [.bool false])
 (.ite (.not (.eq (.len (.var 41)) (.int 1)))
 (.ret [.bool false])
 (.need (.lt (.int 0) (.len (.var 41)))
 (.join 43 [.int .i64]
 (.loop 44 [.int .i64] [.int 0]
 (.ite (.lt (.var 45) (.len (.var 20)))
 (.need (.le (.int 0) (.var 45))
 (.ite (.and (.eq (.cell (.var 20) (.var 45) 0) (.cell (.take (.min (.len (.var 2)) (.int 40)) (.var 2)) (.var 13) 1)) (.and (.eq (.cell (.var 20) (.var 45) 1) (.cell (.take (.min (.len (.var 2)) (.int 40)) (.var 2)) (.var 13) 2)) (.bool true)))
 (.back 43 [.var 45])
 (.need (.fit (.add (.var 45) (.int 1)))
 (.back 44 [.add (.var 45) (.int 1)]))))
 (.back 43 [.int (-1)])))
 (.join 45 [.sl 24 [.int .i64,.int .i64,.int .i64],.sl 0 [.int .i64,.int .i64]]
 (.ite (.eq (.cell (.take (.min (.len (.var 2)) (.int 40)) (.var 2)) (.var 13) 0) (.int 1))
 (.ite (.le (.int 0) (.var 44))
 (.need (.lt (.var 44) (.len (.var 20)))
 (.ite (.not (.beq (.eq (.cell (.var 41) (.int 0) 14) (.int 0)) (.lt (.var 40) (.cell (.var 20) (.var 44) 2))))
 (.ret [.bool false])
 (.ite (.eq (.cell (.var 41) (.int 0) 14) (.int 0))
 (.need (.fit (.add (.look (.var 21) (.cons (.cell (.var 41) (.int 0) 10) .row0) (.int 0) 1 1) (.int 1)))
 (.back 45 [.var 20,.app (.cons (.cell (.var 41) (.int 0) 10) (.cons (.add (.look (.var 21) (.cons (.cell (.var 41) (.int 0) 10) .row0) (.int 0) 1 1) (.int 1)) .row0)) (.var 21)]))
 (.back 45 [.var 20,.var 21]))))
 (.ite (.not (.beq (.eq (.cell (.var 41) (.int 0) 14) (.int 0)) (.bool false)))
 (.ret [.bool false])
 (.ite (.eq (.cell (.var 41) (.int 0) 14) (.int 0))
 (.need (.fit (.add (.look (.var 21) (.cons (.cell (.var 41) (.int 0) 10) .row0) (.int 0) 1 1) (.int 1)))
 (.back 45 [.var 20,.app (.cons (.cell (.var 41) (.int 0) 10) (.cons (.add (.look (.var 21) (.cons (.cell (.var 41) (.int 0) 10) .row0) (.int 0) 1 1) (.int 1)) .row0)) (.var 21)]))
 (.back 45 [.var 20,.var 21]))))
 (.ite (.eq (.cell (.take (.min (.len (.var 2)) (.int 40)) (.var 2)) (.var 13) 0) (.int 2))
 (.ite (.eq (.len (.var 25)) (.int 0))
 (.ite (.not (.eq (.cell (.var 41) (.int 0) 14) (.int 7)))
 (.ret [.bool false])
 (.back 45 [.var 20,.var 21]))
 (.ite (.le (.int 0) (.var 44))
 (.ite (.not (.eq (.cell (.var 41) (.int 0) 14) (.int 6)))
 (.ret [.bool false])
 (.back 45 [.var 20,.var 21]))
 (.ite (.not (.eq (.cell (.var 41) (.int 0) 14) (.int 0)))
 (.ret [.bool false])
 (.need (.fit (.add (.var 40) (.cell (.take (.min (.len (.var 2)) (.int 40)) (.var 2)) (.var 13) 3)))
 (.need (.le (.add (.len (.var 20)) (.int 1)) (.int 5864062014805))
 (.back 45 [.app (.var 20) (.cons (.cell (.take (.min (.len (.var 2)) (.int 40)) (.var 2)) (.var 13) 1) (.cons (.cell (.take (.min (.len (.var 2)) (.int 40)) (.var 2)) (.var 13) 2) (.cons (.min (.add (.var 40) (.cell (.take (.min (.len (.var 2)) (.int 40)) (.var 2)) (.var 13) 3)) (.int 2000000)) .row0))),.var 21]))))))
 (.ite (.eq (.cell (.take (.min (.len (.var 2)) (.int 40)) (.var 2)) (.var 13) 0) (.int 3))
 (.ite (.not (.beq (.eq (.cell (.var 41) (.int 0) 14) (.int 0)) (.le (.int 0) (.var 44))))
 (.ret [.bool false])
 (.ite (.le (.int 0) (.var 44))
 (.need (.fit (.add (.var 44) (.int 1)))
 (.call 149 [.var 20,.var 44,.add (.var 44) (.int 1)] 46
 (.back 45 [.var 46,.var 21])))
 (.back 45 [.var 20,.var 21])))
 (.ite (.eq (.cell (.take (.min (.len (.var 2)) (.int 40)) (.var 2)) (.var 13) 0) (.int 4))
 (.loop 46 [.int .i64] [.int 0]
 (.ite (.lt (.var 47) (.len (.var 20)))
 (.need (.le (.int 0) (.var 47))
 (.call 97 [.cell (.var 20) (.var 47) 0,.cell (.var 20) (.var 47) 1,.var 1] 48
 (.ite (.eq (.var 49) (.int 0))
 (.ite (.eq (.var 48) (.cell (.take (.min (.len (.var 2)) (.int 40)) (.var 2)) (.var 13) 4))
 (.ite (.le (.cell (.var 20) (.var 47) 2) (.var 40))
 (.ite (.eq (.var 47) (.int (-1)))
 (.need (.fit (.sub (.len (.var 20)) (.len (.var 20))))
 (.ite (.not (.eq (.cell (.var 41) (.int 0) 11) (.sub (.len (.var 20)) (.len (.var 20)))))
 (.ret [.bool false])
 (.back 45 [.var 20,.var 21])))
 (.need (.fit (.add (.var 47) (.int 1)))
 (.loop 50 [.sl 24 [.int .i64,.int .i64,.int .i64],.int .i64,.int .i64] [.var 20,.var 47,.add (.var 47) (.int 1)]
 (.ite (.lt (.var 53) (.len (.var 51)))
 (.need (.le (.int 0) (.var 53))
 (.call 97 [.cell (.var 51) (.var 53) 0,.cell (.var 51) (.var 53) 1,.var 1] 54
 (.ite (.eq (.var 55) (.int 0))
 (.ite (.eq (.var 54) (.cell (.take (.min (.len (.var 2)) (.int 40)) (.var 2)) (.var 13) 4))
 (.ite (.not (.le (.cell (.var 51) (.var 53) 2) (.var 40)))
 (.need (.le (.int 0) (.var 52))
 (.need (.lt (.var 52) (.len (.var 51)))
 (.need (.fit (.add (.var 52) (.int 1)))
 (.need (.fit (.add (.var 53) (.int 1)))
 (.back 50 [.set (.set (.set (.var 51) (.var 52) 0 (.cell (.var 51) (.var 53) 0)) (.var 52) 1 (.cell (.var 51) (.var 53) 1)) (.var 52) 2 (.cell (.var 51) (.var 53) 2),.add (.var 52) (.int 1),.add (.var 53) (.int 1)])))))
 (.need (.fit (.add (.var 53) (.int 1)))
 (.back 50 [.var 51,.var 52,.add (.var 53) (.int 1)])))
 (.need (.le (.int 0) (.var 52))
 (.need (.lt (.var 52) (.len (.var 51)))
 (.need (.fit (.add (.var 52) (.int 1)))
 (.need (.fit (.add (.var 53) (.int 1)))
 (.back 50 [.set (.set (.set (.var 51) (.var 52) 0 (.cell (.var 51) (.var 53) 0)) (.var 52) 1 (.cell (.var 51) (.var 53) 1)) (.var 52) 2 (.cell (.var 51) (.var 53) 2),.add (.var 52) (.int 1),.add (.var 53) (.int 1)]))))))
 (.need (.le (.int 0) (.var 52))
 (.need (.lt (.var 52) (.len (.var 51)))
 (.need (.fit (.add (.var 52) (.int 1)))
 (.need (.fit (.add (.var 53) (.int 1)))
 (.back 50 [.set (.set (.set (.var 51) (.var 52) 0 (.cell (.var 51) (.var 53) 0)) (.var 52) 1 (.cell (.var 51) (.var 53) 1)) (.var 52) 2 (.cell (.var 51) (.var 53) 2),.add (.var 52) (.int 1),.add (.var 53) (.int 1)]))))))))
 (.need (.le (.int 0) (.var 52))
 (.need (.le (.var 52) (.len (.var 51)))
 (.need (.le (.add (.var 52) (.sub (.len (.var 51)) (.var 52))) (.len (.var 51)))
 (.need (.fit (.sub (.len (.var 20)) (.var 52)))
 (.ite (.not (.eq (.cell (.var 41) (.int 0) 11) (.sub (.len (.var 20)) (.var 52))))
 (.ret [.bool false])
 (.need (.le (.var 52) (.add (.len (.take (.var 52) (.var 51))) (.add (.len (.rep (.sub (.len (.var 51)) (.var 52)) (.cons (.int 0) (.cons (.int 0) (.cons (.int 0) .row0))))) (.len (.drop (.add (.var 52) (.sub (.len (.var 51)) (.var 52))) (.var 51))))))
 (.back 45 [.take (.var 52) (.app (.take (.var 52) (.var 51)) (.app (.rep (.sub (.len (.var 51)) (.var 52)) (.cons (.int 0) (.cons (.int 0) (.cons (.int 0) .row0)))) (.drop (.add (.var 52) (.sub (.len (.var 51)) (.var 52))) (.var 51)))),.var 21])))))))))))
 (.need (.fit (.add (.var 47) (.int 1)))
 (.back 46 [.add (.var 47) (.int 1)])))
 (.need (.fit (.add (.var 47) (.int 1)))
 (.back 46 [.add (.var 47) (.int 1)])))
 (.need (.fit (.add (.var 47) (.int 1)))
 (.back 46 [.add (.var 47) (.int 1)])))))
 (.need (.fit (.sub (.len (.var 20)) (.len (.var 20))))
 (.ite (.not (.eq (.cell (.var 41) (.int 0) 11) (.sub (.len (.var 20)) (.len (.var 20)))))
 (.ret [.bool false])
 (.back 45 [.var 20,.var 21])))))
 (.ite (.eq (.cell (.take (.min (.len (.var 2)) (.int 40)) (.var 2)) (.var 13) 0) (.int 6))
 (.need (.fit (.sub (.look (.var 21) (.cons (.cell (.take (.min (.len (.var 2)) (.int 40)) (.var 2)) (.var 13) 5) .row0) (.int 0) 1 1) (.int 1)))
 (.back 45 [.var 20,.app (.cons (.cell (.take (.min (.len (.var 2)) (.int 40)) (.var 2)) (.var 13) 5) (.cons (.sub (.look (.var 21) (.cons (.cell (.take (.min (.len (.var 2)) (.int 40)) (.var 2)) (.var 13) 5) .row0) (.int 0) 1 1) (.int 1)) .row0)) (.var 21)]))
 (.back 45 [.var 20,.var 21]))))))
 (.call 134 [.var 36,.var 37,.var 38,.var 39,.var 40,.var 41] 48
 (.ite (.not (.eq (.var 49) (.int 0)))
 (.ret [.bool false])
 (.ite (.not (.eq (.len (.var 48)) (.len (.var 46))))
 (.ret [.bool false])
 (.loop 50 [.int .i64,.sl 0 [.int .i64,.int .i64]] [.int 0,.nil]
 (.ite (.lt (.var 51) (.len (.var 48)))
 (.need (.le (.int 0) (.var 51))
 (.loop 53 [.int .i64] [.int 0]
 (.ite (.lt (.var 54) (.len (.var 46)))
 (.need (.le (.int 0) (.var 54))
 (.ite (.and (.eq (.cell (.var 46) (.var 54) 0) (.cell (.var 48) (.var 51) 0)) (.and (.eq (.cell (.var 46) (.var 54) 1) (.cell (.var 48) (.var 51) 1)) (.bool true)))
 (.ite (.not (.eq (.cell (.var 46) (.var 54) 2) (.cell (.var 48) (.var 51) 3)))
 (.ret [.bool false])
 (.need (.fit (.add (.look (.var 52) (.cons (.cell (.var 48) (.var 51) 2) .row0) (.int 0) 1 1) (.int 1)))
 (.need (.fit (.add (.var 51) (.int 1)))
 (.back 50 [.add (.var 51) (.int 1),.app (.cons (.cell (.var 48) (.var 51) 2) (.cons (.add (.look (.var 52) (.cons (.cell (.var 48) (.var 51) 2) .row0) (.int 0) 1 1) (.int 1)) .row0)) (.var 52)]))))
 (.need (.fit (.add (.var 54) (.int 1)))
 (.back 53 [.add (.var 54) (.int 1)]))))
 (.ret [.bool false]))))
 (.loop 53 [.int .i64] [.int 0]
 (.ite (.lt (.var 54) (.len (.var 36)))
 (.need (.le (.int 0) (.var 54))
 (.need (.fit (.add (.look (.var 52) (.cons (.var 54) .row0) (.int 0) 1 1) (.look (.var 47) (.cons (.var 54) .row0) (.int 0) 1 1)))
 (.ite (.not (.eq (.cell (.var 36) (.var 54) 0) (.add (.look (.var 52) (.cons (.var 54) .row0) (.int 0) 1 1) (.look (.var 47) (.cons (.var 54) .row0) (.int 0) 1 1))))
 (.ret [.bool false])
 (.need (.fit (.add (.var 54) (.int 1)))
 (.back 53 [.add (.var 54) (.int 1)])))))
 (.need (.fit (.add (.var 13) (.int 1)))
 (.back 12 [.add (.var 13) (.int 1),.var 36,.var 37,.var 38,.var 39,.var 40,.var 41,.var 46,.var 47]))))))))))))))))))))
 (.ret [.bool true]))))))))))
theorem run35 : run z35 6000 [.code (Try.f35.body.getD .skip),.fin (bt z35 Try.f35.results.toList 50)] { fn:=35,tmps:=z35.sig.aM ++ List.replicate (Try.f35.ntmps - z35.sig.aM.length) (.v (.one .undef)),stk:=[],h:=z35.sig.h0,nx:=z35.sig.ins.length,known:=[]}=t35:=by kernel_rfl
set_option maxHeartbeats 8000000 in
theorem ok35 : cB Try.prog 35 d35.ct:=by
 refine aD (d:=d35) (Z:=z35) (Γ:=gam l35) (fn:=Try.f35) (c:=Try.f35.body.getD .skip) (bg tok mixed (all_cons ok78 (all_cons ok79 (all_cons ok140 (all_cons ok137 (all_cons ok149 (all_cons ok97 (all_cons ok134 all_nil))))))) (dX (c:=Try.f146.body.getD .skip) Try.func146 (by kernel_rfl) (by kernel_rfl) (dX (c:=Try.f147.body.getD .skip) Try.func147 (by kernel_rfl) (by kernel_rfl) (dX (c:=Try.f148.body.getD .skip) Try.func148 (by kernel_rfl) (by kernel_rfl) (dX (c:=Try.f150.body.getD .skip) Try.func150 (by kernel_rfl) (by kernel_rfl) (dX (c:=Try.f151.body.getD .skip) Try.func151 (by kernel_rfl) (by kernel_rfl) (dX (c:=Try.f152.body.getD .skip) Try.func152 (by kernel_rfl) (by kernel_rfl) (dX (c:=Try.f153.body.getD .skip) Try.func153 (by kernel_rfl) (by kernel_rfl) bh)))))))) Try.func35 (by kernel_rfl) (by kernel_rfl) rfl run35 fun E hk hp=>?_
 obtain ⟨hk0,hk1,hk2,hk3,_⟩:=hk
 obtain ⟨x,e0⟩:=ok_int (d:=E 0) hk0
 obtain ⟨x2,e1⟩:=ok_int (d:=E 1) hk1
 obtain ⟨l,e2,b2⟩:=Dd (d:=E 2) hk2
 have b2 : l.length * 48≤140737488355328:=b2
 obtain ⟨l2,e3,b3⟩:=iL (d:=E 3) hk3
 have b3 : l2.length * 8≤140737488355328:=b3
 have el : aH E d35.sig.ins.length=[.i x,.i x2,eP l,af l2]:=by
  show [E 0,E 1,E 2,E 3]=_
  rw [e0,e1,e2,e3]
 rw [el] at hp
 rw [el]
 rw [Env.bJ el]
 clear el e0 e1 e2 e3
 unfold t35
 obtain ⟨N,hN⟩ : ∃ N,iw x x2 1=N:=⟨_,rfl⟩
 refine ai d78 [au N.1.m.slots,af N.1.m.heads,af N.1.m.free,af N.1.m.ae,.i N.1.m.now,az N.1.ts,.i N.2] rfl trivial (by simp only [nrm,xdn,reduceIte,Nat.reduceLT,Nat.reduceSub,Nat.reduceAdd,d78,hN];rfl) (ai d79 [.b true] rfl trivial rfl (G0 (fun hn=>?_) (fun _=>G0 (fun _=>ai d79 [.b true] rfl trivial rfl (aj (by simp only [nrm,xdn,reduceIte,Nat.reduceLT,Nat.reduceSub,Nat.reduceAdd];rfl))) (fun h0=>?_))))
 ·skip
  simp only [nrm,xdn,reduceIte,Nat.reduceLT,Nat.reduceSub,Nat.reduceAdd] at hn
  simp at hn
 simp only [nrm,xdn,reduceIte,Nat.reduceLT,Nat.reduceSub,Nat.reduceAdd] at h0
 have h0 : N.2=0:=by simpa using h0
 obtain ⟨n1,n2,n3,n4,n5⟩ : Fz N.1∧N.1.ts.length=1∧(N.1.m.heads.length : Int)=x2∧aq N.1.m=[]∧(tsk N.1 0).held=[]:=by rw [← hN] at h0 ⊢;exact Dm h0
 obtain ⟨mn,hmn⟩ : ∃ mn : Nat,(if (40 : Int) < (l.length : Int) then (40 : Int) else (l.length : Int))=mn∧mn=min l.length 40:=⟨min l.length 40,by split <;> omega,rfl⟩
 obtain ⟨cl,hcl⟩ : ∃ cl,l.take mn=cl:=⟨_,rfl⟩
 have hclen : cl.length≤40:=by rw [← hcl,List.length_take];omega
 refine ag (by simp only [nrm,xdn,reduceIte,Nat.reduceLT,Nat.reduceSub,Nat.reduceAdd,bF];omega) (ag (by simp only [nrm,xdn,reduceIte,Nat.reduceLT,Nat.reduceSub,Nat.reduceAdd,bF];omega) (ag (by simp only [nrm,xdn,reduceIte,Nat.reduceLT,Nat.reduceSub,Nat.reduceAdd];exact aI _) ?_))
 refine bO (fun ds=>∃ (i : Nat) (w : Wrd) (L : List SF) (M : List (Int × Int)),ds=.i i :: (wds w ++ [dP L,Dv M])∧AtS x2 L M w∧i≤cl.length) (fun ds=>cl.length - (ds.getD 0 .u).int.toNat) ⟨0,N.1,[],[],?_,⟨n1,n2,n3,?_,fun a=>?_⟩,by omega⟩ ?_
 ·simp only [nrm,xdn,reduceIte,Nat.reduceLT,Nat.reduceSub,Nat.reduceAdd,cg,wds,lca];rfl
 ·rw [n4];exact ⟨List.nodup_nil,List.nodup_nil,fun _ h=>(by cases h),fun _ h=>(by cases h)⟩
 ·rw [n5];rfl
 clear n1 n2 n3 n4 n5 h0 hN
 rintro ds - ⟨i,w,L,M,rfl,hw,hi⟩
 have hCL : CD.l ((eP l).rows.take ((if (40 : Int) < (l.length : Int) then (40 : Int) else (l.length : Int))).toNat)=eP cl:=by rw [hmn.1,Int.toNat_natCast,LL,hcl]
 refine G0 (fun h=>?_) (fun h=>aj (by simp only [nrm,xdn,reduceIte,Nat.reduceLT,Nat.reduceSub,Nat.reduceAdd];rfl))
 simp only [nrm,xdn,reduceIte,Nat.reduceLT,Nat.reduceSub,Nat.reduceAdd,wds,lca,bF,hCL] at h
 have hlt : i < cl.length:=by simpa using h
 obtain ⟨c,hc⟩ : ∃ c,cl.getD i default=c:=⟨_,rfl⟩
 have hcell : ∀ o,((eP cl).rows.getD i []).getD o .u=c.cds.getD o .u:=fun o=>by rw [EI o hlt,hc]
 have hc0 : ((eP cl).rows.getD i []).getD 0 .u=.i c.kind:=hcell 0
 have hc1 : ((eP cl).rows.getD i []).getD 1 .u=.i c.k.a:=hcell 1
 have hc2 : ((eP cl).rows.getD i []).getD 2 .u=.i c.k.b:=hcell 2
 have hc3 : ((eP cl).rows.getD i []).getD 3 .u=.i c.time:=hcell 3
 have hc4 : ((eP cl).rows.getD i []).getD 4 .u=.i c.bucket:=hcell 4
 have hc5 : ((eP cl).rows.getD i []).getD 5 .u=.i c.slot:=hcell 5
 refine ag (by simp only [nrm,xdn,reduceIte,Nat.reduceLT,Nat.reduceSub,Nat.reduceAdd,wds,lca];omega) ?_
 refine tS (fun ds=>∃ v : Wrd,ds=wds v∧AtS x2 L M v) ?_ ?_
 ·have hsame : ∀ (E : Env) (Y : JJ) (a b c d e f : X),[a,b,c,d,e,f].map (X.den E)=wds w→(Tree.back 22 [a,b,c,d,e,f]).den (gam l35) (fun outs=>outs=[.b true]) E (Y.put 22 fun ds=>∃ v : Wrd,ds=wds v∧AtS x2 L M v):=fun E Y a b c d e f he=>aV ⟨w,he,hw⟩
  refine G0 (fun h1=>?_) (fun _=>hsame _ _ _ _ _ _ _ _ (by simp only [nrm,xdn,reduceIte,Nat.reduceLT,Nat.reduceSub,Nat.reduceAdd,wds,lca]))
  simp only [nrm,xdn,reduceIte,Nat.reduceLT,Nat.reduceSub,Nat.reduceAdd,aw] at h1
  have h1 : 0 < l2.length:=by simpa using h1
  have t0:=Int.tmod_nonneg (l2.length : Int) (show (0 : Int)≤(i : Int) by omega)
  have t1:=Int.tmod_lt_of_pos (i : Int) (show (0 : Int) < (l2.length : Int) by omega)
  refine ag (by simp only [nrm,xdn,reduceIte,Nat.reduceLT,Nat.reduceSub,Nat.reduceAdd,aw];simp;intro e;rw [e] at h1;simp at h1) (ag (by simp only [nrm,xdn,reduceIte,Nat.reduceLT,Nat.reduceSub,Nat.reduceAdd,aw];exact t0) (ag (by simp only [nrm,xdn,reduceIte,Nat.reduceLT,Nat.reduceSub,Nat.reduceAdd,aw];exact t1) (G0 (fun _=>?_) (fun _=>hsame _ _ _ _ _ _ _ _ (by simp only [nrm,xdn,reduceIte,Nat.reduceLT,Nat.reduceSub,Nat.reduceAdd,wds,lca])))))
  obtain ⟨r,hr⟩ : ∃ r,doW w.G4 jt=r:=⟨_,rfl⟩
  refine ai d140 [au r.1.m.slots,af r.1.m.heads,af r.1.m.free,af r.1.m.ae,.i r.1.m.now,az r.1.ts,.i r.2] rfl trivial ?_ (G0 (fun h2=>?_) (fun _=>?_))
  ·simp only [nrm,xdn,reduceIte,Nat.reduceLT,Nat.reduceSub,Nat.reduceAdd,wds,lca,d140,fY,aA,List.drop_succ_cons,List.drop_zero,oe,cz]
   show (doW w.G4 jt).1.cds ++ [.i (doW w.G4 jt).2]=_
   rw [hr];rfl
  ·simp only [nrm,xdn,reduceIte,Nat.reduceLT,Nat.reduceSub,Nat.reduceAdd] at h2
   have h2 : r.2=0:=by simpa using h2
   obtain ⟨k1,k2⟩:=Bx hw.calm (by rw [hr];exact h2)
   rw [hr] at k1
   refine ag (by simp only [nrm,xdn,reduceIte,Nat.reduceLT,Nat.reduceSub,Nat.reduceAdd];exact aI _) (aV ⟨_,?_,k2,hw.len,hw.hl,by rw [yN];exact hw.sol,hw.held⟩)
   simp only [nrm,xdn,reduceIte,Nat.reduceLT,Nat.reduceSub,Nat.reduceAdd,cg,k1,wds]
  ·exact ag (by simp only [nrm,xdn,reduceIte,Nat.reduceLT,Nat.reduceSub,Nat.reduceAdd];exact aI _) (hsame _ _ _ _ _ _ _ _ (by simp only [nrm,xdn,reduceIte,Nat.reduceLT,Nat.reduceSub,Nat.reduceAdd,wds,lca]))
 rintro ds - ⟨v,rfl,hv⟩
 clear hw
 obtain ⟨r,hr⟩ : ∃ r,doW v.G4 ⟨0,false,false,c⟩=r:=⟨_,rfl⟩
 refine ai d140 [au r.1.m.slots,af r.1.m.heads,af r.1.m.free,af r.1.m.ae,.i r.1.m.now,az r.1.ts,.i r.2] rfl trivial ?_ (G0 (fun _=>?_) (fun h2=>?_))
 ·simp only [nrm,xdn,reduceIte,Nat.reduceLT,Nat.reduceSub,Nat.reduceAdd,wds,lca,bF,hCL,Int.toNat_natCast,hc0,hc1,hc2,hc3,hc4,hc5,d140,fY,aA,List.drop_succ_cons,List.drop_zero,oe,cz]
  show (doW v.G4 ⟨0,false,false,c⟩).1.cds ++ [.i (doW v.G4 ⟨0,false,false,c⟩).2]=_
  rw [hr];rfl
 ·refine G1 (by simp only [nrm,xdn,reduceIte,Nat.reduceLT,Nat.reduceSub,Nat.reduceAdd,wds,lca];omega) (ag (by simp only [nrm,xdn,reduceIte,Nat.reduceLT,Nat.reduceSub,Nat.reduceAdd];exact aI _) (aV ⟨⟨i + 1,v,L,M,?_,hv,by omega⟩,?_⟩))
  ·simp only [nrm,xdn,reduceIte,Nat.reduceLT,Nat.reduceSub,Nat.reduceAdd,wds,lca];rfl
  ·simp only [nrm,xdn,reduceIte,Nat.reduceLT,Nat.reduceSub,Nat.reduceAdd,wds,lca];omega
 simp only [nrm,xdn,reduceIte,Nat.reduceLT,Nat.reduceSub,Nat.reduceAdd] at h2
 have h2 : r.2=0:=by simpa using h2
 obtain ⟨u,V,k1,k2,k3,k4,hS⟩:=Cj hv.calm hv.len (c:=c) (by rw [hr];exact h2)
 rw [hr] at k1
 subst k1
 clear h2
 refine ag (by simp only [nrm,xdn,reduceIte,Nat.reduceLT,Nat.reduceSub,Nat.reduceAdd];exact aI _) (ai d137 (wds V ++ [.b true]) rfl ?_ ?_ (G0 (fun hn=>?_) (fun _=>?_)))
 ·simp only [nrm,xdn,reduceIte,Nat.reduceLT,Nat.reduceSub,Nat.reduceAdd,cg,d137,fY,aA]
  exact ⟨by rw [iQ,k2];exact k3,by omega⟩
 ·simp only [nrm,xdn,reduceIte,Nat.reduceLT,Nat.reduceSub,Nat.reduceAdd,cg,d137,fY,aA]
  rw [iQ,k2]
  show (dB 80 u).tM ++ [.b (!eQ (dB 80 u))]=_
  rw [k4,hS.calm.idle];rfl
 ·simp only [nrm,xdn,reduceIte,Nat.reduceLT,Nat.reduceSub,Nat.reduceAdd,wds,lca] at hn
  simp at hn
 refine G0 (fun hn=>?_) (fun _=>ag ?_ ?_)
 ·simp only [nrm,xdn,reduceIte,Nat.reduceLT,Nat.reduceSub,Nat.reduceAdd,wds,lca,cJ,hS.len] at hn
  simp at hn
 ·simp only [nrm,xdn,reduceIte,Nat.reduceLT,Nat.reduceSub,Nat.reduceAdd,wds,lca,cJ,hS.len]
  omega
 have te : ((G2 V.ts).rows.getD 0 []).getD 14 .u=.i (tsk V 0).f.e:=pW hS.len 14
 have tl : ((G2 V.ts).rows.getD 0 []).getD 10 .u=.i (tsk V 0).f.slot:=pW hS.len 10
 have tn : ((G2 V.ts).rows.getD 0 []).getD 11 .u=.i (tsk V 0).f.n:=pW hS.len 11
 have hnow:=hS.nh.now
 have hLlen:=hv.sol.len
 have hfew:=pC hv.calm.inv.ch.mem
 refine tS (fun ds=>∃ n : Int,ds=[.i n]∧Fnd L c.k n) ?_ ?_
 ·refine bO (fun ds=>∃ j : Nat,ds=[.i j]∧j≤L.length∧∀ t,t < j→(L.getD t default).k≠c.k) (fun ds=>L.length - (ds.getD 0 .u).int.toNat) ⟨0,rfl,by omega,fun t ht=>by omega⟩ ?_
  rintro ds - ⟨j,rfl,hj,hno⟩
  refine G0 (fun h1=>?_) (fun h1=>?_)
  ·simp only [nrm,xdn,reduceIte,Nat.reduceLT,Nat.reduceSub,Nat.reduceAdd,wds,lca,cw] at h1
   have h1 : j < L.length:=by simpa using h1
   have q0 : ((dP L).rows.getD j []).getD 0 .u=.i (L.getD j default).k.a:=iu 0 h1
   have q1 : ((dP L).rows.getD j []).getD 1 .u=.i (L.getD j default).k.b:=iu 1 h1
   refine ag (by simp only [nrm,xdn,reduceIte,Nat.reduceLT,Nat.reduceSub,Nat.reduceAdd,wds,lca];omega) (G0 (fun h2=>?_) (fun h2=>?_))
   ·simp only [nrm,xdn,reduceIte,Nat.reduceLT,Nat.reduceSub,Nat.reduceAdd,wds,lca,bF,hCL,Int.toNat_natCast,hc1,hc2,q0,q1] at h2
    have e : (L.getD j default).k=c.k:=by simpa [rY] using h2
    exact fj (by decide) ⟨j,by simp only [nrm,xdn,reduceIte,Nat.reduceLT,Nat.reduceSub,Nat.reduceAdd,wds,lca],.inr ⟨by omega,by omega,by rw [Int.toNat_natCast];exact e⟩⟩
   ·simp only [nrm,xdn,reduceIte,Nat.reduceLT,Nat.reduceSub,Nat.reduceAdd,wds,lca,bF,hCL,Int.toNat_natCast,hc1,hc2,q0,q1] at h2
    have e : (L.getD j default).k≠c.k:=by simpa [rY] using h2
    refine G1 (by simp only [nrm,xdn,reduceIte,Nat.reduceLT,Nat.reduceSub,Nat.reduceAdd,wds,lca];omega) (aV ⟨⟨j + 1,by simp only [nrm,xdn,reduceIte,Nat.reduceLT,Nat.reduceSub,Nat.reduceAdd,wds,lca];rfl,by omega,fun t ht=>?_⟩,by simp only [nrm,xdn,reduceIte,Nat.reduceLT,Nat.reduceSub,Nat.reduceAdd,wds,lca];omega⟩)
    by_cases e2 : t=j
    ·rw [e2];exact e
    ·exact hno t (by omega)
  ·simp only [nrm,xdn,reduceIte,Nat.reduceLT,Nat.reduceSub,Nat.reduceAdd,wds,lca,cw] at h1
   have h1 : ¬ j < L.length:=by simpa using h1
   refine fj (by decide) ⟨-1,by simp only [nrm,xdn,reduceIte,Nat.reduceLT,Nat.reduceSub,Nat.reduceAdd],.inl ⟨rfl,fun p hp=>?_⟩⟩
   obtain ⟨t,ht,e⟩:=List.getElem_of_mem hp
   have:=hno t (by omega)
   rwa [List.getD_eq_getElem?_getD,List.getElem?_eq_getElem ht,Option.getD_some,e] at this
 rintro ds - ⟨n,rfl,hf⟩
 have hno:=hv.sol.no hf
 have hfl:=hf
 refine tS (In45 V) ?_ ?_
 ·refine G0 (fun hk=>?_) (fun hk1=>?_)
  ·simp only [nrm,xdn,reduceIte,Nat.reduceLT,Nat.reduceSub,Nat.reduceAdd,wds,lca,bF,hCL,Int.toNat_natCast,hc0] at hk
   have hk : c.kind=1:=by simpa using hk
   obtain ⟨hfs,hcase⟩:=hS.look hk
   have hsol : Sol (aq V.m) L:=by rw [hfs];exact hv.sol
   have hcnt:=fun a=>pw hS.calm hS.len a
   have hcnt0:=fun a=>pw hv.calm hv.len a
   refine G0 (fun h1=>?_) (fun h1=>?_)
   ·simp only [nrm,xdn,reduceIte,Nat.reduceLT,Nat.reduceSub,Nat.reduceAdd] at h1
    have h1 : 0≤n:=by simpa using h1
    have hlt2 : n < L.length:=by
     rcases hf with ⟨e,_⟩ | ⟨_,e,_⟩ <;> omega
    obtain ⟨z,hz,hzk⟩:=hno.1 h1
    have hzt:=hv.sol.till hf h1 hz hzk
    have q2 : ((dP L).rows.getD n.toNat []).getD 2 .u=.i (L.getD n.toNat default).till:=iu 2 (by omega)
    have hiff : (tsk V 0).f.e=0↔V.m.now < (L.getD n.toNat default).till:=by
     rcases hcase with ⟨g1,_,g3⟩ | ⟨g1,_,y,hy,hyk,g4⟩
     ·have:=g3 z hz hzk
      exact ⟨fun e=>absurd e g1,fun e=>by omega⟩
     ·have:=hv.sol.till hf h1 hy hyk
      exact ⟨fun _=>by omega,fun _=>g1⟩
    obtain ⟨T,hT⟩ : ∃ T,(L.getD n.toNat default).till=T:=⟨_,rfl⟩
    rw [hT] at q2 hiff
    refine ag (by simp only [nrm,xdn,reduceIte,Nat.reduceLT,Nat.reduceSub,Nat.reduceAdd,wds,lca,cw];omega) (G0 (fun hn=>?_) (fun _=>?_))
    ·exfalso
     simp only [nrm,xdn,reduceIte,Nat.reduceLT,Nat.reduceSub,Nat.reduceAdd,wds,lca,te,q2,Int.toNat_zero] at hn
     by_cases e : (tsk V 0).f.e=0
     ·have:=hiff.1 e
      simp [e,this] at hn
     ·have : ¬ V.m.now < T:=fun y=>e (hiff.2 y)
      simp [e,this] at hn
    ·refine G0 (fun he=>?_) (fun he=>?_)
     ·simp only [nrm,xdn,reduceIte,Nat.reduceLT,Nat.reduceSub,Nat.reduceAdd,wds,lca,te,Int.toNat_zero] at he
      have he : (tsk V 0).f.e=0:=by simpa using he
      have g2 : (tsk V 0).held=(tsk v 0).held ++ [(tsk V 0).f.slot]:=by
       rcases hcase with ⟨g1,_⟩ | ⟨_,g2,_⟩
       ·exact absurd he g1
       ·exact g2
      refine G1 ?_ (aV ⟨L,((tsk V 0).f.slot,iD M (tsk V 0).f.slot + 1) :: M,?_,hsol,fun a=>?_⟩)
      ·simp only [nrm,xdn,reduceIte,Nat.reduceLT,Nat.reduceSub,Nat.reduceAdd,wds,lca,tl,Int.toNat_zero,CD.row,CD.ax,List.headD_cons,eX]
       have:=hv.held (tsk V 0).f.slot
       have:=hcnt0 (tsk V 0).f.slot
       omega
      ·simp only [nrm,xdn,reduceIte,Nat.reduceLT,Nat.reduceSub,Nat.reduceAdd,wds,lca,tl,Int.toNat_zero,CD.row,CD.ax,List.headD_cons,eX]
       rfl
      ·rw [g2,List.count_append,iD,hv.held,hv.held,List.count_singleton]
       by_cases e : (tsk V 0).f.slot=a
       ·rw [if_pos e,if_pos (by simpa using e),e];omega
       ·rw [if_neg e,if_neg (by simpa using e)];omega
     ·simp only [nrm,xdn,reduceIte,Nat.reduceLT,Nat.reduceSub,Nat.reduceAdd,wds,lca,te,Int.toNat_zero] at he
      have he : (tsk V 0).f.e≠0:=by simpa using he
      have hheld : (tsk V 0).held=(tsk v 0).held:=by
       rcases hcase with ⟨_,g2,_⟩ | ⟨g1,_⟩
       ·exact g2
       ·exact absurd g1 he
      exact aV ⟨L,M,by simp only [nrm,xdn,reduceIte,Nat.reduceLT,Nat.reduceSub,Nat.reduceAdd,wds,lca],hsol,fun a=>by rw [hheld];exact hv.held a⟩
   ·simp only [nrm,xdn,reduceIte,Nat.reduceLT,Nat.reduceSub,Nat.reduceAdd] at h1
    have h1 : ¬ 0≤n:=by simpa using h1
    have he : (tsk V 0).f.e≠0:=fun e=>by
     rcases hcase with ⟨g1,_⟩ | ⟨_,_,y,hy,hyk,_⟩
     ·exact g1 e
     ·exact h1 (hno.2 ⟨y,hy,hyk⟩)
    have hheld : (tsk V 0).held=(tsk v 0).held:=by
     rcases hcase with ⟨_,g2,_⟩ | ⟨g1,_⟩
     ·exact g2
     ·exact absurd g1 he
    refine G0 (fun hn=>?_) (fun _=>G0 (fun hn=>?_) (fun _=>?_))
    ·exfalso
     simp only [nrm,xdn,reduceIte,Nat.reduceLT,Nat.reduceSub,Nat.reduceAdd,wds,lca,te,Int.toNat_zero] at hn
     simp [he] at hn
    ·exfalso
     simp only [nrm,xdn,reduceIte,Nat.reduceLT,Nat.reduceSub,Nat.reduceAdd,wds,lca,te,Int.toNat_zero] at hn
     simp [he] at hn
    ·exact aV ⟨L,M,by simp only [nrm,xdn,reduceIte,Nat.reduceLT,Nat.reduceSub,Nat.reduceAdd,wds,lca],hsol,fun a=>by rw [hheld];exact hv.held a⟩
  ·simp only [nrm,xdn,reduceIte,Nat.reduceLT,Nat.reduceSub,Nat.reduceAdd,wds,lca,bF,hCL,Int.toNat_natCast,hc0] at hk1
   have hk1 : c.kind≠1:=by simpa using hk1
   refine G0 (fun hk=>?_) (fun hk2=>?_)
   ·simp only [nrm,xdn,reduceIte,Nat.reduceLT,Nat.reduceSub,Nat.reduceAdd,wds,lca,bF,hCL,Int.toNat_natCast,hc0] at hk
    have hk : c.kind=2:=by simpa using hk
    obtain ⟨hheld,hcase⟩:=hS.add hk
    have htm:=hS.time hk
    have hcn : ∀ a,iD M a=(tsk V 0).held.count a:=fun a=>by rw [hheld];exact hv.held a
    have hm:=hv.calm.inv.ch.mem
    have hm0:=hm.ma
    have hm1:=hm.Ik
    refine G0 (fun h1=>?_) (fun h1=>?_)
    ·simp only [nrm,xdn,reduceIte,Nat.reduceLT,Nat.reduceSub,Nat.reduceAdd,wds,lca,aw] at h1
     have h1 : v.m.free.length=0:=by simpa using h1
     obtain ⟨he,hfs⟩ : (tsk V 0).f.e=7∧aq V.m=aq v.m:=by
      rcases hcase with ⟨_,g⟩ | ⟨g,_⟩ | ⟨g,_⟩
      ·exact g
      ·exact absurd h1 g
      ·exact absurd h1 g
     refine G0 (fun hn=>?_) (fun _=>aV ⟨L,M,by simp only [nrm,xdn,reduceIte,Nat.reduceLT,Nat.reduceSub,Nat.reduceAdd,wds,lca],by rw [hfs];exact hv.sol,hcn⟩)
     exfalso
     simp only [nrm,xdn,reduceIte,Nat.reduceLT,Nat.reduceSub,Nat.reduceAdd,wds,lca,te,Int.toNat_zero,he] at hn
     simp at hn
    ·simp only [nrm,xdn,reduceIte,Nat.reduceLT,Nat.reduceSub,Nat.reduceAdd,wds,lca,aw] at h1
     have h1 : v.m.free.length≠0:=by simpa using h1
     refine G0 (fun h2=>?_) (fun h2=>?_)
     ·simp only [nrm,xdn,reduceIte,Nat.reduceLT,Nat.reduceSub,Nat.reduceAdd] at h2
      have h2 : 0≤n:=by simpa using h2
      obtain ⟨z,hz,hzk⟩:=hno.1 h2
      obtain ⟨he,hfs⟩ : (tsk V 0).f.e=6∧aq V.m=aq v.m:=by
       rcases hcase with ⟨g,_⟩ | ⟨_,_,g⟩ | ⟨_,g,_⟩
       ·exact absurd g h1
       ·exact g
       ·exact absurd hzk (g z hz)
      refine G0 (fun hn=>?_) (fun _=>aV ⟨L,M,by simp only [nrm,xdn,reduceIte,Nat.reduceLT,Nat.reduceSub,Nat.reduceAdd,wds,lca],by rw [hfs];exact hv.sol,hcn⟩)
      exfalso
      simp only [nrm,xdn,reduceIte,Nat.reduceLT,Nat.reduceSub,Nat.reduceAdd,wds,lca,te,Int.toNat_zero,he] at hn
      simp at hn
     ·simp only [nrm,xdn,reduceIte,Nat.reduceLT,Nat.reduceSub,Nat.reduceAdd] at h2
      have h2 : ¬ 0≤n:=by simpa using h2
      obtain ⟨g2,he,g4,⟨s,g5⟩,g6⟩ : (∀ x∈aq v.m,x.k≠c.k)∧(tsk V 0).f.e=0∧(aq V.m).length=(aq v.m).length + 1∧(∃ s,⟨c.k,s,da v.m c.time⟩∈aq V.m)∧∀ x∈aq v.m,x∈aq V.m:=by
       rcases hcase with ⟨g,_⟩ | ⟨_,g,_⟩ | ⟨_,g⟩
       ·exact absurd g h1
       ·exact absurd (hno.2 g) h2
       ·exact g
      have hsol:=hv.sol.add g2 g4 g5 g6 (DS hS.calm.inv.ch)
      refine G0 (fun hn=>?_) (fun _=>?_)
      ·exfalso
       simp only [nrm,xdn,reduceIte,Nat.reduceLT,Nat.reduceSub,Nat.reduceAdd,wds,lca,te,Int.toNat_zero,he] at hn
       simp at hn
      refine G1 (by simp only [nrm,xdn,reduceIte,Nat.reduceLT,Nat.reduceSub,Nat.reduceAdd,wds,lca,bF,hCL,Int.toNat_natCast,hc3];omega) (eh (by simp only [nrm,xdn,reduceIte,Nat.reduceLT,Nat.reduceSub,Nat.reduceAdd,wds,lca,cw];omega) (aV ⟨L ++ [⟨c.k,da v.m c.time⟩],M,?_,hsol,hcn⟩))
      have ht : (if (2000000 : Int) < V.m.now + c.time then (2000000 : Int) else V.m.now + c.time)=da v.m c.time:=by
       unfold da
       rw [hnow]
       split <;> split <;> omega
      simp only [nrm,xdn,reduceIte,Nat.reduceLT,Nat.reduceSub,Nat.reduceAdd,wds,lca,bF,hCL,Int.toNat_natCast,hc1,hc2,hc3,CD.row,CD.ax,List.headD_cons,ht]
      simp only [dP,CD.ax,List.map_append]
      rfl
   simp only [nrm,xdn,reduceIte,Nat.reduceLT,Nat.reduceSub,Nat.reduceAdd,wds,lca,bF,hCL,Int.toNat_natCast,hc0] at hk2
   have hk2 : c.kind≠2:=by simpa using hk2
   refine G0 (fun hk=>?_) (fun hk3=>?_)
   ·simp only [nrm,xdn,reduceIte,Nat.reduceLT,Nat.reduceSub,Nat.reduceAdd,wds,lca,bF,hCL,Int.toNat_natCast,hc0] at hk
    have hk : c.kind=3:=by simpa using hk
    obtain ⟨hheld,hcase⟩:=hS.drop hk
    have hcn : ∀ a,iD M a=(tsk V 0).held.count a:=fun a=>by rw [hheld];exact hv.held a
    have hiff : (tsk V 0).f.e=0↔0≤n:=by
     rw [hno]
     rcases hcase with ⟨g1,g2,_⟩ | ⟨g1,g2,_⟩
     ·exact ⟨fun e=>by omega,fun ⟨z,hz,hzk⟩=>absurd hzk (g1 z hz)⟩
     ·exact ⟨fun _=>g1,fun _=>g2⟩
    refine G0 (fun hn=>?_) (fun _=>G0 (fun h1=>?_) (fun h1=>?_))
    ·exfalso
     simp only [nrm,xdn,reduceIte,Nat.reduceLT,Nat.reduceSub,Nat.reduceAdd,wds,lca,te,Int.toNat_zero] at hn
     by_cases e : (tsk V 0).f.e=0
     ·have:=hiff.1 e
      simp [e,this] at hn
     ·have : ¬ 0≤n:=fun y=>e (hiff.2 y)
      simp [e,this] at hn
    ·simp only [nrm,xdn,reduceIte,Nat.reduceLT,Nat.reduceSub,Nat.reduceAdd] at h1
     have h1 : 0≤n:=by simpa using h1
     obtain ⟨hlt2,hkn⟩ : n < L.length∧(L.getD n.toNat default).k=c.k:=by
      rcases hf with ⟨e,_⟩ | ⟨_,e⟩
      ·omega
      ·exact e
     have hfs : aq V.m=(aq v.m).filter fun x=>decide (x.k≠c.k):=by
      rcases hcase with ⟨g1,_⟩ | ⟨_,_,g⟩
      ·obtain ⟨z,hz,hzk⟩:=hno.1 h1
       exact absurd hzk (g1 z hz)
      ·exact g
     have hstr:=As (k:=c.k) hv.sol.n2 (j:=n.toNat) (by omega) hkn
     refine G1 (by simp only [nrm,xdn,reduceIte,Nat.reduceLT,Nat.reduceSub,Nat.reduceAdd];omega) (ai d149 [dP (L.filter fun p=>decide (p.k≠c.k))] rfl ?_ ?_ (aV ⟨L.filter fun p=>decide (p.k≠c.k),M,by simp only [nrm,xdn,reduceIte,Nat.reduceLT,Nat.reduceSub,Nat.reduceAdd,wds,lca],?_,hcn⟩))
     ·simp only [nrm,xdn,reduceIte,Nat.reduceLT,Nat.reduceSub,Nat.reduceAdd,wds,lca,d149,sI]
      exact ⟨h1,by omega,by omega⟩
     ·simp only [nrm,xdn,reduceIte,Nat.reduceLT,Nat.reduceSub,Nat.reduceAdd,wds,lca,fs149]
      rw [show (n + 1).toNat=n.toNat + 1 from by omega,hstr]
     ·rw [hfs]
      exact hv.sol.filter fun x _=>rfl
    ·simp only [nrm,xdn,reduceIte,Nat.reduceLT,Nat.reduceSub,Nat.reduceAdd] at h1
     have h1 : ¬ 0≤n:=by simpa using h1
     have hfs : aq V.m=aq v.m:=by
      rcases hcase with ⟨_,_,g⟩ | ⟨g,_⟩
      ·exact g
      ·exact absurd (hno.2 g) h1
     exact aV ⟨L,M,by simp only [nrm,xdn,reduceIte,Nat.reduceLT,Nat.reduceSub,Nat.reduceAdd,wds,lca],by rw [hfs];exact hv.sol,hcn⟩
   simp only [nrm,xdn,reduceIte,Nat.reduceLT,Nat.reduceSub,Nat.reduceAdd,wds,lca,bF,hCL,Int.toNat_natCast,hc0] at hk3
   have hk3 : c.kind≠3:=by simpa using hk3
   refine G0 (fun hk=>?_) (fun hk4=>?_)
   ·simp only [nrm,xdn,reduceIte,Nat.reduceLT,Nat.reduceSub,Nat.reduceAdd,wds,lca,bF,hCL,Int.toNat_natCast,hc0] at hk
    have hk : c.kind=4:=by simpa using hk
    obtain ⟨hheld,hfs,hn0⟩:=hS.sweep hk
    have hcn : ∀ a,iD M a=(tsk V 0).held.count a:=fun a=>by rw [hheld];exact hv.held a
    obtain ⟨R,hR⟩ : ∃ R : SF→Bool,R=fun p=>!(decide ((aY p.k x2).2=0) && (decide ((aY p.k x2).1=c.bucket) && decide (p.till≤V.m.now))):=⟨_,rfl⟩
    have hRt : ∀ p : SF,R p=false↔(aY p.k x2).2=0∧(aY p.k x2).1=c.bucket∧p.till≤V.m.now:=fun p=>by rw [hR];simp
    have hsol : Sol (aq V.m) (L.filter R):=by
     rw [hfs]
     refine hv.sol.filter fun z hz=>?_
     obtain ⟨q1,q2,q3,_⟩:=jj hv.calm.inv.ch hz
     have hkey : Key.Ok z.k:=by
      have:=(hv.calm.inv.ch.mem.sl (i:=z.slot.toNat) (by omega)).k
      rw [← q3];exact this
     have hb2:=(jq hv.calm.inv.ch.mem hkey).2.2
     have hbk : (aY z.k x2).2=0∧(aY z.k x2).1=bk v.m z.k:=by rw [← hv.hl];exact ⟨hb2,rfl⟩
     by_cases hq : z.till≤v.m.now∧bk v.m z.k=c.bucket
     ·have : R ⟨z.k,z.till⟩=false:=(hRt _).2 ⟨hbk.1,hbk.2.trans hq.2,by rw [hnow];exact hq.1⟩
      rw [this]
      simp [hq.1,hq.2]
     ·have : R ⟨z.k,z.till⟩=true:=by
       cases e : R ⟨z.k,z.till⟩ with
       | true=>rfl
       | false =>
        obtain ⟨_,e2,e3⟩:=(hRt _).1 e
        exact absurd ⟨by rw [← hnow];exact e3,hbk.2.symm.trans e2⟩ hq
      rw [this]
      simp only [Bool.not_eq_true',Bool.and_eq_false_imp,decide_eq_true_eq,decide_eq_false_iff_not]
      exact fun y z=>hq ⟨y,z⟩
    have hn1 : (tsk V 0).f.n=L.length - (L.filter R).length:=by
     have:=hsol.len
     omega
    have hall : (∀ t,t < L.length→R (L.getD t default)=true)→L.filter R=L:=fun ha=>List.filter_eq_self.2 fun p hp=>by
     obtain ⟨t,ht,e⟩:=List.getElem_of_mem hp
     have:=ha t ht
     rwa [List.getD_eq_getElem?_getD,List.getElem?_eq_getElem ht,Option.getD_some,e] at this
    refine bO (fun ds=>∃ j : Nat,ds=[.i j]∧j≤L.length∧∀ t,t < j→R (L.getD t default)=true) (fun ds=>L.length - (ds.getD 0 .u).int.toNat) ⟨0,rfl,by omega,fun t ht=>by omega⟩ ?_
    rintro ds - ⟨j,rfl,hj,hkeep⟩
    refine G0 (fun h1=>?_) (fun h1=>?_)
    ·simp only [nrm,xdn,reduceIte,Nat.reduceLT,Nat.reduceSub,Nat.reduceAdd,wds,lca,cw] at h1
     have h1 : j < L.length:=by simpa using h1
     have q0 : ((dP L).rows.getD j []).getD 0 .u=.i (L.getD j default).k.a:=iu 0 h1
     have q1 : ((dP L).rows.getD j []).getD 1 .u=.i (L.getD j default).k.b:=iu 1 h1
     have q2 : ((dP L).rows.getD j []).getD 2 .u=.i (L.getD j default).till:=iu 2 h1
     obtain ⟨p,hp0⟩ : ∃ p,L.getD j default=p:=⟨_,rfl⟩
     rw [hp0] at q0 q1 q2
     have hmore : R p=true→∀ t,t < j + 1→R (L.getD t default)=true:=fun hr t ht=>by
      by_cases e : t=j
      ·rw [e,hp0];exact hr
      ·exact hkeep t (by omega)
     refine ag (by simp only [nrm,xdn,reduceIte,Nat.reduceLT,Nat.reduceSub,Nat.reduceAdd,wds,lca];omega) (ai d97 [.i (aY p.k x2).1,.i (aY p.k x2).2] rfl trivial (by simp only [nrm,xdn,reduceIte,Nat.reduceLT,Nat.reduceSub,Nat.reduceAdd,wds,lca,Int.toNat_natCast,q0,q1,d97,jK,eZ]) (G0 (fun g1=>?_) (fun g1=>?_)))
     rotate_left
     ·simp only [nrm,xdn,reduceIte,Nat.reduceLT,Nat.reduceSub,Nat.reduceAdd,wds,lca] at g1
      have g1 : ¬ (aY p.k x2).2=0:=by simpa using g1
      have hr : R p=true:=by cases e : R p <;> first | rfl | exact absurd ((hRt p).1 e).1 g1
      refine G1 (by simp only [nrm,xdn,reduceIte,Nat.reduceLT,Nat.reduceSub,Nat.reduceAdd,wds,lca];omega) (aV ⟨⟨j + 1,by simp only [nrm,xdn,reduceIte,Nat.reduceLT,Nat.reduceSub,Nat.reduceAdd,wds,lca];rfl,by omega,hmore hr⟩,by simp only [nrm,xdn,reduceIte,Nat.reduceLT,Nat.reduceSub,Nat.reduceAdd,wds,lca];omega⟩)
     simp only [nrm,xdn,reduceIte,Nat.reduceLT,Nat.reduceSub,Nat.reduceAdd,wds,lca] at g1
     have g1 : (aY p.k x2).2=0:=by simpa using g1
     refine G0 (fun g2=>?_) (fun g2=>?_)
     rotate_left
     ·simp only [nrm,xdn,reduceIte,Nat.reduceLT,Nat.reduceSub,Nat.reduceAdd,wds,lca,bF,hCL,Int.toNat_natCast,hc4] at g2
      have g2 : ¬ (aY p.k x2).1=c.bucket:=by simpa using g2
      have hr : R p=true:=by cases e : R p <;> first | rfl | exact absurd ((hRt p).1 e).2.1 g2
      refine G1 (by simp only [nrm,xdn,reduceIte,Nat.reduceLT,Nat.reduceSub,Nat.reduceAdd,wds,lca];omega) (aV ⟨⟨j + 1,by simp only [nrm,xdn,reduceIte,Nat.reduceLT,Nat.reduceSub,Nat.reduceAdd,wds,lca];rfl,by omega,hmore hr⟩,by simp only [nrm,xdn,reduceIte,Nat.reduceLT,Nat.reduceSub,Nat.reduceAdd,wds,lca];omega⟩)
     simp only [nrm,xdn,reduceIte,Nat.reduceLT,Nat.reduceSub,Nat.reduceAdd,wds,lca,bF,hCL,Int.toNat_natCast,hc4] at g2
     have g2 : (aY p.k x2).1=c.bucket:=by simpa using g2
     refine G0 (fun g3=>?_) (fun g3=>?_)
     rotate_left
     ·simp only [nrm,xdn,reduceIte,Nat.reduceLT,Nat.reduceSub,Nat.reduceAdd,wds,lca,Int.toNat_natCast,q2] at g3
      have g3 : ¬ p.till≤V.m.now:=by simpa using g3
      have hr : R p=true:=by cases e : R p <;> first | rfl | exact absurd ((hRt p).1 e).2.2 g3
      refine G1 (by simp only [nrm,xdn,reduceIte,Nat.reduceLT,Nat.reduceSub,Nat.reduceAdd,wds,lca];omega) (aV ⟨⟨j + 1,by simp only [nrm,xdn,reduceIte,Nat.reduceLT,Nat.reduceSub,Nat.reduceAdd,wds,lca];rfl,by omega,hmore hr⟩,by simp only [nrm,xdn,reduceIte,Nat.reduceLT,Nat.reduceSub,Nat.reduceAdd,wds,lca];omega⟩)
     simp only [nrm,xdn,reduceIte,Nat.reduceLT,Nat.reduceSub,Nat.reduceAdd,wds,lca,Int.toNat_natCast,q2] at g3
     have g3 : p.till≤V.m.now:=by simpa using g3
     have hr : R p=false:=(hRt p).2 ⟨g1,g2,g3⟩
     refine G0 (fun g=>?_) (fun _=>G1 (by simp only [nrm,xdn,reduceIte,Nat.reduceLT,Nat.reduceSub,Nat.reduceAdd,wds,lca];omega) ?_)
     ·exfalso
      simp only [nrm,xdn,reduceIte,Nat.reduceLT,Nat.reduceSub,Nat.reduceAdd,wds,lca] at g
      simp at g
     refine bO (fun ds=>∃ (A : List SF) (i2 j2 : Nat),ds=[dP A,.i i2,.i j2]∧lD R L A i2 j2) (fun ds=>L.length - (ds.getD 2 .u).int.toNat) ⟨L,j,j + 1,?_,⟨rfl,by omega,by omega,?_,rfl⟩⟩ ?_
     ·simp only [nrm,xdn,reduceIte,Nat.reduceLT,Nat.reduceSub,Nat.reduceAdd,wds,lca];rfl
     ·rw [lr h1,hp0,if_neg (by rw [hr];simp),List.append_nil,List.filter_eq_self.2]
      intro y hy
      obtain ⟨t,ht,e⟩:=List.getElem_of_mem hy
      rw [List.length_take] at ht
      have:=hkeep t (by omega)
      rw [List.getElem_take] at e
      rwa [List.getD_eq_getElem?_getD,List.getElem?_eq_getElem (by omega),Option.getD_some,e] at this
     rintro ds - ⟨A,i2,j2,rfl,S⟩
     have sl:=S.len
     have sij:=S.ij
     have sjl:=S.jl
     clear q0 q1 q2 hmore
     refine G0 (fun h2=>?_) (fun h2=>?_)
     ·simp only [nrm,xdn,reduceIte,Nat.reduceLT,Nat.reduceSub,Nat.reduceAdd,wds,lca,cw] at h2
      have h2 : j2 < A.length:=by simpa using h2
      have hgd:=nN S.dr
      have q0 : ((dP A).rows.getD j2 []).getD 0 .u=.i (A.getD j2 default).k.a:=iu 0 h2
      have q1 : ((dP A).rows.getD j2 []).getD 1 .u=.i (A.getD j2 default).k.b:=iu 1 h2
      have q2 : ((dP A).rows.getD j2 []).getD 2 .u=.i (A.getD j2 default).till:=iu 2 h2
      obtain ⟨y,hy⟩ : ∃ y,A.getD j2 default=y:=⟨_,rfl⟩
      rw [hy] at q0 q1 q2 hgd
      refine ag (by simp only [nrm,xdn,reduceIte,Nat.reduceLT,Nat.reduceSub,Nat.reduceAdd,wds,lca];omega) (ai d97 [.i (aY y.k x2).1,.i (aY y.k x2).2] rfl trivial (by simp only [nrm,xdn,reduceIte,Nat.reduceLT,Nat.reduceSub,Nat.reduceAdd,wds,lca,Int.toNat_natCast,q0,q1,d97,jK,eZ]) (G0 (fun g1=>?_) (fun g1=>?_)))
      rotate_left
      ·simp only [nrm,xdn,reduceIte,Nat.reduceLT,Nat.reduceSub,Nat.reduceAdd,wds,lca] at g1
       have g1 : ¬ (aY y.k x2).2=0:=by simpa using g1
       have hr : R y=true:=by cases e : R y <;> first | rfl | exact absurd ((hRt y).1 e).1 g1
       refine eh (by simp only [nrm,xdn,reduceIte,Nat.reduceLT,Nat.reduceSub,Nat.reduceAdd,wds,lca];omega) (lv (by simp only [nrm,xdn,reduceIte,Nat.reduceLT,Nat.reduceSub,Nat.reduceAdd,wds,lca,cw];omega) (G1 (by simp only [nrm,xdn,reduceIte,Nat.reduceLT,Nat.reduceSub,Nat.reduceAdd,wds,lca];omega) (G1 (by simp only [nrm,xdn,reduceIte,Nat.reduceLT,Nat.reduceSub,Nat.reduceAdd,wds,lca];omega) (aV ⟨⟨A.set i2 (A.getD j2 default),i2 + 1,j2 + 1,?_,S.fa (by omega) (by rw [← hgd];exact hr)⟩,?_⟩))))
       ·simp only [nrm,xdn,reduceIte,Nat.reduceLT,Nat.reduceSub,Nat.reduceAdd,wds,lca,Int.toNat_natCast]
        rw [pY (by omega) (by omega) rfl rfl rfl];rfl
       ·simp only [nrm,xdn,reduceIte,Nat.reduceLT,Nat.reduceSub,Nat.reduceAdd,wds,lca];omega
      simp only [nrm,xdn,reduceIte,Nat.reduceLT,Nat.reduceSub,Nat.reduceAdd,wds,lca] at g1
      have g1 : (aY y.k x2).2=0:=by simpa using g1
      refine G0 (fun g2=>?_) (fun g2=>?_)
      rotate_left
      ·simp only [nrm,xdn,reduceIte,Nat.reduceLT,Nat.reduceSub,Nat.reduceAdd,wds,lca,bF,hCL,Int.toNat_natCast,hc4] at g2
       have g2 : ¬ (aY y.k x2).1=c.bucket:=by simpa using g2
       have hr : R y=true:=by cases e : R y <;> first | rfl | exact absurd ((hRt y).1 e).2.1 g2
       refine eh (by simp only [nrm,xdn,reduceIte,Nat.reduceLT,Nat.reduceSub,Nat.reduceAdd,wds,lca];omega) (lv (by simp only [nrm,xdn,reduceIte,Nat.reduceLT,Nat.reduceSub,Nat.reduceAdd,wds,lca,cw];omega) (G1 (by simp only [nrm,xdn,reduceIte,Nat.reduceLT,Nat.reduceSub,Nat.reduceAdd,wds,lca];omega) (G1 (by simp only [nrm,xdn,reduceIte,Nat.reduceLT,Nat.reduceSub,Nat.reduceAdd,wds,lca];omega) (aV ⟨⟨A.set i2 (A.getD j2 default),i2 + 1,j2 + 1,?_,S.fa (by omega) (by rw [← hgd];exact hr)⟩,?_⟩))))
       ·simp only [nrm,xdn,reduceIte,Nat.reduceLT,Nat.reduceSub,Nat.reduceAdd,wds,lca,Int.toNat_natCast]
        rw [pY (by omega) (by omega) rfl rfl rfl];rfl
       ·simp only [nrm,xdn,reduceIte,Nat.reduceLT,Nat.reduceSub,Nat.reduceAdd,wds,lca];omega
      simp only [nrm,xdn,reduceIte,Nat.reduceLT,Nat.reduceSub,Nat.reduceAdd,wds,lca,bF,hCL,Int.toNat_natCast,hc4] at g2
      have g2 : (aY y.k x2).1=c.bucket:=by simpa using g2
      refine G0 (fun g3=>?_) (fun g3=>?_)
      ·simp only [nrm,xdn,reduceIte,Nat.reduceLT,Nat.reduceSub,Nat.reduceAdd,wds,lca,Int.toNat_natCast,q2] at g3
       have g3 : ¬ y.till≤V.m.now:=by simpa using g3
       have hr : R y=true:=by cases e : R y <;> first | rfl | exact absurd ((hRt y).1 e).2.2 g3
       refine eh (by simp only [nrm,xdn,reduceIte,Nat.reduceLT,Nat.reduceSub,Nat.reduceAdd,wds,lca];omega) (lv (by simp only [nrm,xdn,reduceIte,Nat.reduceLT,Nat.reduceSub,Nat.reduceAdd,wds,lca,cw];omega) (G1 (by simp only [nrm,xdn,reduceIte,Nat.reduceLT,Nat.reduceSub,Nat.reduceAdd,wds,lca];omega) (G1 (by simp only [nrm,xdn,reduceIte,Nat.reduceLT,Nat.reduceSub,Nat.reduceAdd,wds,lca];omega) (aV ⟨⟨A.set i2 (A.getD j2 default),i2 + 1,j2 + 1,?_,S.fa (by omega) (by rw [← hgd];exact hr)⟩,?_⟩))))
       ·simp only [nrm,xdn,reduceIte,Nat.reduceLT,Nat.reduceSub,Nat.reduceAdd,wds,lca,Int.toNat_natCast]
        rw [pY (by omega) (by omega) rfl rfl rfl];rfl
       ·simp only [nrm,xdn,reduceIte,Nat.reduceLT,Nat.reduceSub,Nat.reduceAdd,wds,lca];omega
      ·simp only [nrm,xdn,reduceIte,Nat.reduceLT,Nat.reduceSub,Nat.reduceAdd,wds,lca,Int.toNat_natCast,q2] at g3
       have g3 : y.till≤V.m.now:=by simpa using g3
       have hr : R y=false:=(hRt y).2 ⟨g1,g2,g3⟩
       refine G1 (by simp only [nrm,xdn,reduceIte,Nat.reduceLT,Nat.reduceSub,Nat.reduceAdd,wds,lca];omega) (aV ⟨⟨A,i2,j2 + 1,?_,S.Gl (by omega) (by rw [← hgd];exact hr)⟩,?_⟩)
       ·simp only [nrm,xdn,reduceIte,Nat.reduceLT,Nat.reduceSub,Nat.reduceAdd,wds,lca];rfl
       ·simp only [nrm,xdn,reduceIte,Nat.reduceLT,Nat.reduceSub,Nat.reduceAdd,wds,lca];omega
     ·simp only [nrm,xdn,reduceIte,Nat.reduceLT,Nat.reduceSub,Nat.reduceAdd,wds,lca,cw] at h2
      have h2 : ¬ j2 < A.length:=by simpa using h2
      have hfin : A.take i2=L.filter R:=by
       rw [S.tk,List.take_of_length_le (by omega)]
      have hlen : (L.filter R).length=i2:=by rw [← hfin,List.length_take];omega
      refine ag (by simp only [nrm,xdn,reduceIte,Nat.reduceLT,Nat.reduceSub,Nat.reduceAdd,wds,lca];omega) (ag (by simp only [nrm,xdn,reduceIte,Nat.reduceLT,Nat.reduceSub,Nat.reduceAdd,wds,lca,cw];omega) (ag (by simp only [nrm,xdn,reduceIte,Nat.reduceLT,Nat.reduceSub,Nat.reduceAdd,wds,lca,cw];omega) (G1 (by simp only [nrm,xdn,reduceIte,Nat.reduceLT,Nat.reduceSub,Nat.reduceAdd,wds,lca,cw];omega) (G0 (fun hn=>?_) (fun _=>ag ?_ (vo (by decide) (by decide) ⟨L.filter R,M,?_,hsol,hcn⟩))))))
      ·exfalso
       simp only [nrm,xdn,reduceIte,Nat.reduceLT,Nat.reduceSub,Nat.reduceAdd,wds,lca,tn,Int.toNat_zero,cw,hn1,hlen] at hn
       simp at hn
      ·simp only [nrm,xdn,reduceIte,Nat.reduceLT,Nat.reduceSub,Nat.reduceAdd,wds,lca,cw,List.length_take,List.length_drop,List.length_replicate]
       omega
      ·simp only [nrm,xdn,reduceIte,Nat.reduceLT,Nat.reduceSub,Nat.reduceAdd,wds,lca,Int.toNat_natCast]
       have e0 : ∀ B : List (List CD),(((dP A).rows.take i2) ++ B).take i2=(dP A).rows.take i2:=fun B=>by
        rw [List.take_append_of_le_length (by rw [List.length_take,cw];omega),List.take_take,Nat.min_self]
       rw [e0,← hfin]
       simp only [dP,CD.ax,List.map_take]
    ·simp only [nrm,xdn,reduceIte,Nat.reduceLT,Nat.reduceSub,Nat.reduceAdd,wds,lca,cw] at h1
     have h1 : ¬ j < L.length:=by simpa using h1
     have hsame:=hall fun t ht=>hkeep t (by omega)
     rw [hsame] at hsol hn1
     refine G1 (by simp only [nrm,xdn,reduceIte,Nat.reduceLT,Nat.reduceSub,Nat.reduceAdd,wds,lca,cw];omega) (G0 (fun hn=>?_) (fun _=>fj (by decide) ⟨L,M,by simp only [nrm,xdn,reduceIte,Nat.reduceLT,Nat.reduceSub,Nat.reduceAdd,wds,lca],hsol,hcn⟩))
     exfalso
     simp only [nrm,xdn,reduceIte,Nat.reduceLT,Nat.reduceSub,Nat.reduceAdd,wds,lca,tn,Int.toNat_zero,cw,hn1] at hn
     simp at hn
   simp only [nrm,xdn,reduceIte,Nat.reduceLT,Nat.reduceSub,Nat.reduceAdd,wds,lca,bF,hCL,Int.toNat_natCast,hc0] at hk4
   have hk4 : c.kind≠4:=by simpa using hk4
   refine G0 (fun hk=>?_) (fun hk5=>?_)
   ·simp only [nrm,xdn,reduceIte,Nat.reduceLT,Nat.reduceSub,Nat.reduceAdd,wds,lca,bF,hCL,Int.toNat_natCast,hc0] at hk
    have hk : c.kind=6:=by simpa using hk
    obtain ⟨hfs,hcnt⟩:=hS.leave hk
    have h1:=hv.held c.slot
    have h2:=pw hv.calm hv.len c.slot
    refine G1 ?_ (aV ⟨L,(c.slot,iD M c.slot - 1) :: M,?_,by rw [hfs];exact hv.sol,fun a=>?_⟩)
    ·simp only [nrm,xdn,reduceIte,Nat.reduceLT,Nat.reduceSub,Nat.reduceAdd,wds,lca,bF,hCL,Int.toNat_natCast,hc5,CD.row,CD.ax,List.headD_cons,eX]
     omega
    ·simp only [nrm,xdn,reduceIte,Nat.reduceLT,Nat.reduceSub,Nat.reduceAdd,wds,lca,bF,hCL,Int.toNat_natCast,hc5,CD.row,CD.ax,List.headD_cons,eX]
     rfl
    ·have:=hcnt a
     rw [iD,hv.held,hv.held]
     by_cases e : c.slot=a
     ·rw [if_pos e,e]
      rw [if_pos e.symm] at this
      omega
     ·rw [if_neg e]
      rw [if_neg (fun y=>e y.symm)] at this
      omega
   ·simp only [nrm,xdn,reduceIte,Nat.reduceLT,Nat.reduceSub,Nat.reduceAdd,wds,lca,bF,hCL,Int.toNat_natCast,hc0] at hk5
    have hk5 : c.kind≠6:=by simpa using hk5
    have hkd:=hS.kind
    obtain ⟨hheld,hfs⟩:=hS.list (by omega)
    exact aV ⟨L,M,by simp only [nrm,xdn,reduceIte,Nat.reduceLT,Nat.reduceSub,Nat.reduceAdd,wds,lca],by rw [hfs];exact hv.sol,fun a=>by rw [hheld];exact hv.held a⟩
 rintro ds - ⟨L',M',rfl,hsol,hheld⟩
 obtain ⟨j1,j2⟩:=hS.calm.inv.G4.check
 have hfw : qw V.G4=(aq V.m,0):=by
  unfold qw jM
  rw [if_neg (fun y=>y j1),if_neg (fun y=>y j2)];rfl
 obtain ⟨F,hF⟩ : ∃ F,aq V.m=F:=⟨_,rfl⟩
 have hlenL:=hsol.len
 have hFlen : F.length≤48:=by rw [← hF];exact pC hS.calm.inv.ch.mem
 have hns:=hS.calm.inv.ch.mem.ns
 refine ai d134 [eM F,.i 0] rfl trivial ?_ (G0 (fun hn=>?_) (fun _=>G0 (fun hn=>?_) (fun _=>?_)))
 ·simp only [nrm,xdn,reduceIte,Nat.reduceLT,Nat.reduceSub,Nat.reduceAdd,wds,lca,d134,fY,aA]
  rw [show Wrd.G4 ⟨V.m,V.ts⟩=V.G4 from rfl,hfw,hF]
 ·exfalso
  simp only [nrm,xdn,reduceIte,Nat.reduceLT,Nat.reduceSub,Nat.reduceAdd,wds,lca] at hn
  simp at hn
 ·exfalso
  simp only [nrm,xdn,reduceIte,Nat.reduceLT,Nat.reduceSub,Nat.reduceAdd,wds,lca,iT,cw,hlenL,hF] at hn
  simp at hn
 rw [hF] at hsol hlenL
 refine bO (fun ds=>∃ (j : Nat) (C : List (Int × Int)),ds=[.i j,Dv C]∧j≤F.length∧∀ a,iD C a=tT a (F.take j)) (fun ds=>F.length - (ds.getD 0 .u).int.toNat) ⟨0,[],rfl,by omega,fun a=>rfl⟩ ?_
 rintro ds - ⟨j,C,rfl,hj,hC⟩
 refine G0 (fun h1=>?_) (fun h1=>?_)
 ·simp only [nrm,xdn,reduceIte,Nat.reduceLT,Nat.reduceSub,Nat.reduceAdd,wds,lca,iT] at h1
  have h1 : j < F.length:=by simpa using h1
  obtain ⟨z,hz⟩ : ∃ z,F.getD j default=z:=⟨_,rfl⟩
  have hzF : z∈F:=by
   rw [← hz,List.getD_eq_getElem?_getD,List.getElem?_eq_getElem h1]
   exact List.getElem_mem h1
  have z0 : ((eM F).rows.getD j []).getD 0 .u=.i z.k.a:=by rw [← hz];exact dh cI.row F j 0 h1
  have z1 : ((eM F).rows.getD j []).getD 1 .u=.i z.k.b:=by rw [← hz];exact dh cI.row F j 1 h1
  have z2 : ((eM F).rows.getD j []).getD 2 .u=.i z.slot:=by rw [← hz];exact dh cI.row F j 2 h1
  have z3 : ((eM F).rows.getD j []).getD 3 .u=.i z.till:=by rw [← hz];exact dh cI.row F j 3 h1
  refine ag (by simp only [nrm,xdn,reduceIte,Nat.reduceLT,Nat.reduceSub,Nat.reduceAdd,wds,lca];omega) ?_
  refine bO (fun ds=>∃ k : Nat,ds=[.i k]∧k≤L'.length∧∀ t,t < k→(L'.getD t default).k≠z.k) (fun ds=>L'.length - (ds.getD 0 .u).int.toNat) ⟨0,rfl,by omega,fun t ht=>by omega⟩ ?_
  rintro ds - ⟨k,rfl,hk,hnk⟩
  refine G0 (fun h2=>?_) (fun h2=>?_)
  ·simp only [nrm,xdn,reduceIte,Nat.reduceLT,Nat.reduceSub,Nat.reduceAdd,wds,lca,cw] at h2
   have h2 : k < L'.length:=by simpa using h2
   have q0 : ((dP L').rows.getD k []).getD 0 .u=.i (L'.getD k default).k.a:=iu 0 h2
   have q1 : ((dP L').rows.getD k []).getD 1 .u=.i (L'.getD k default).k.b:=iu 1 h2
   have q2 : ((dP L').rows.getD k []).getD 2 .u=.i (L'.getD k default).till:=iu 2 h2
   obtain ⟨p,hp0⟩ : ∃ p,L'.getD k default=p:=⟨_,rfl⟩
   have hpL : p∈L':=by rw [← hp0];exact nq h2
   rw [hp0] at q0 q1 q2
   refine ag (by simp only [nrm,xdn,reduceIte,Nat.reduceLT,Nat.reduceSub,Nat.reduceAdd,wds,lca];omega) (G0 (fun h3=>?_) (fun h3=>?_))
   ·simp only [nrm,xdn,reduceIte,Nat.reduceLT,Nat.reduceSub,Nat.reduceAdd,wds,lca,Int.toNat_natCast,q0,q1,z0,z1] at h3
    have e : p.k=z.k:=by simpa [rY] using h3
    have ht : p.till=z.till:=by
     have:=fw hsol.n2 hpL (hsol.mem z hzF) e
     rw [this]
    have hcl2:=D4 z.slot F j
    have hcz:=hC z.slot
    refine G0 (fun hn=>?_) (fun _=>G1 ?_ (G1 (by simp only [nrm,xdn,reduceIte,Nat.reduceLT,Nat.reduceSub,Nat.reduceAdd,wds,lca];omega) (fj (by decide) ⟨⟨j + 1,(z.slot,iD C z.slot + 1) :: C,?_,by omega,fun a=>?_⟩,?_⟩)))
    ·exfalso
     simp only [nrm,xdn,reduceIte,Nat.reduceLT,Nat.reduceSub,Nat.reduceAdd,wds,lca,Int.toNat_natCast,q2,z3,ht] at hn
     simp at hn
    ·simp only [nrm,xdn,reduceIte,Nat.reduceLT,Nat.reduceSub,Nat.reduceAdd,wds,lca,Int.toNat_natCast,z2,CD.row,CD.ax,List.headD_cons,eX]
     omega
    ·simp only [nrm,xdn,reduceIte,Nat.reduceLT,Nat.reduceSub,Nat.reduceAdd,wds,lca,Int.toNat_natCast,z2,CD.row,CD.ax,List.headD_cons,eX]
     rfl
    ·rw [D3 h1,hz,iD,hC,hC]
     by_cases e3 : z.slot=a
     ·rw [if_pos e3,if_pos e3,e3];omega
     ·rw [if_neg e3,if_neg e3];omega
    ·simp only [nrm,xdn,reduceIte,Nat.reduceLT,Nat.reduceSub,Nat.reduceAdd,wds,lca];omega
   ·simp only [nrm,xdn,reduceIte,Nat.reduceLT,Nat.reduceSub,Nat.reduceAdd,wds,lca,Int.toNat_natCast,q0,q1,z0,z1] at h3
    have e : p.k≠z.k:=by simpa [rY] using h3
    refine G1 (by simp only [nrm,xdn,reduceIte,Nat.reduceLT,Nat.reduceSub,Nat.reduceAdd,wds,lca];omega) (aV ⟨⟨k + 1,by simp only [nrm,xdn,reduceIte,Nat.reduceLT,Nat.reduceSub,Nat.reduceAdd,wds,lca];rfl,by omega,fun t ht=>?_⟩,by simp only [nrm,xdn,reduceIte,Nat.reduceLT,Nat.reduceSub,Nat.reduceAdd,wds,lca];omega⟩)
    by_cases e2 : t=k
    ·rw [e2,hp0];exact e
    ·exact hnk t (by omega)
  ·simp only [nrm,xdn,reduceIte,Nat.reduceLT,Nat.reduceSub,Nat.reduceAdd,wds,lca,cw] at h2
   have h2 : ¬ k < L'.length:=by simpa using h2
   exfalso
   obtain ⟨t,ht,e⟩:=List.getElem_of_mem (hsol.mem z hzF)
   have:=hnk t (by omega)
   rw [List.getD_eq_getElem?_getD,List.getElem?_eq_getElem ht,Option.getD_some,e] at this
   exact this rfl
 simp only [nrm,xdn,reduceIte,Nat.reduceLT,Nat.reduceSub,Nat.reduceAdd,wds,lca,iT] at h1
 have h1 : ¬ j < F.length:=by simpa using h1
 have hC2 : ∀ a,iD C a=tT a F:=fun a=>by rw [hC,List.take_of_length_le (by omega)]
 refine bO (fun ds=>∃ k : Nat,ds=[.i k]∧k≤V.m.slots.length) (fun ds=>V.m.slots.length - (ds.getD 0 .u).int.toNat) ⟨0,rfl,by omega⟩ ?_
 rintro ds - ⟨k,rfl,hk⟩
 refine G0 (fun h2=>?_) (fun h2=>?_)
 ·simp only [nrm,xdn,reduceIte,Nat.reduceLT,Nat.reduceSub,Nat.reduceAdd,wds,lca,aN] at h2
  have h2 : k < V.m.slots.length:=by simpa using h2
  have q0 : ((au V.m.slots).rows.getD k []).getD 0 .u=.i (msl V.m k).refs:=KW h2
  have hr:=BF hS.calm hS.len h2
  rw [hF,← hC2,← hheld] at hr
  have g1:=hC2 k
  have g2:=hheld k
  have g3:=pw hS.calm hS.len k
  have g4:=D4 k F F.length
  rw [List.take_length] at g4
  refine ag (by simp only [nrm,xdn,reduceIte,Nat.reduceLT,Nat.reduceSub,Nat.reduceAdd,wds,lca];omega) (G1 ?_ (G0 (fun hn=>?_) (fun _=>G1 (by simp only [nrm,xdn,reduceIte,Nat.reduceLT,Nat.reduceSub,Nat.reduceAdd,wds,lca];omega) (aV ⟨⟨k + 1,by simp only [nrm,xdn,reduceIte,Nat.reduceLT,Nat.reduceSub,Nat.reduceAdd,wds,lca];rfl,by omega⟩,by simp only [nrm,xdn,reduceIte,Nat.reduceLT,Nat.reduceSub,Nat.reduceAdd,wds,lca];omega⟩))))
  ·simp only [nrm,xdn,reduceIte,Nat.reduceLT,Nat.reduceSub,Nat.reduceAdd,wds,lca,CD.row,CD.ax,List.headD_cons,eX]
   omega
  ·exfalso
   simp only [nrm,xdn,reduceIte,Nat.reduceLT,Nat.reduceSub,Nat.reduceAdd,wds,lca,Int.toNat_natCast,q0,CD.row,CD.ax,List.headD_cons,eX,hr] at hn
   simp at hn
 ·refine G1 (by simp only [nrm,xdn,reduceIte,Nat.reduceLT,Nat.reduceSub,Nat.reduceAdd,wds,lca];omega) (vo (by decide) (by decide) ⟨⟨i + 1,V,L',M',?_,⟨hS.calm,hS.len,by rw [hS.nh.hl];exact hv.hl,by rw [hF];exact hsol,hheld⟩,by omega⟩,?_⟩)
  ·simp only [nrm,xdn,reduceIte,Nat.reduceLT,Nat.reduceSub,Nat.reduceAdd,wds,lca];rfl
  ·simp only [nrm,xdn,reduceIte,Nat.reduceLT,Nat.reduceSub,Nat.reduceAdd,wds,lca];omega
end Go.Proofs.Ytpmamacjepcdmaa
