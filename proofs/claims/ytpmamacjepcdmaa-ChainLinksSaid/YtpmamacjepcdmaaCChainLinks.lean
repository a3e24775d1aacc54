import Derived.Test.YtpmamacjepcdmaaCChainLaws1
namespace Go.Proofs.Ytpmamacjepcdmaa
open Go Go.Sy Go.RowKit
set_option linter.unusedSimpArgs false
set_option linter.unusedVariables false
def s13 : Sig:=⟨[.agg [.fz kS,.fz kI,.fz kI,.fz kI,.int .i64],.one (.int .i64),.agg [.int .i64,.int .i64]],[.one (.bool)]⟩
def d13 : DC:=⟨s13,fun _=>True,fun _=>[.b true]⟩
def l13 : List (Nat × Ct):=[(62,d62.ct),(82,d82.ct),(83,d83.ct),(72,d72.ct),(73,d73.ct),(60,d60.ct),(76,d76.ct),(65,d65.ct),(88,d88.ct),(77,d77.ct),(89,d89.ct),(87,d87.ct)]
noncomputable def z13 : Cx:={ T:=ttA,C:=sigs l13,F:=[(84,Try.f84),(85,Try.f85),(86,Try.f86)],hints:=[⟨13,34,false,[(183,.lt),(22,.lt)],[],[],[],0,0,false⟩,⟨85,2,false,[(8,.lt)],[],[],[],0,0,false⟩],sig:=s13}
def t13 : Tree :=
 (.call 62 [.var 0,.var 1,.var 2,.var 3,.var 4] 8
 (.call 82 [.var 8,.var 9,.var 10,.var 11,.var 12,.var 5] 13
 (.call 83 [.var 8,.var 9,.var 10,.var 11,.var 12,.var 6,.var 7] 19
 (.call 72 [.var 0,.var 1,.var 2,.var 3,.var 4] 26
 (.call 73 [] 27
 (.ite (.not (.var 27))
 (.ret [.bool false])
 (.call 60 [.var 8,.var 9,.var 10,.var 11,.var 12,.var 0,.var 1,.var 2,.var 3,.var 4] 28
 (.ite (.not (.var 28))
 (.ret [.bool false])
 (.ite (.not (.eq (.var 26) (.int 0)))
 (.ite (.eq (.var 18) (.var 26))
 (.ite (.eq (.var 25) (.var 26))
 (.ite (.eq (.var 24) (.int 0))
 (.call 60 [.var 13,.var 14,.var 15,.var 16,.var 17,.nil,.nil,.nil,.nil,.int 0] 29
 (.ite (.var 29)
 (.call 60 [.var 19,.var 20,.var 21,.var 22,.var 23,.nil,.nil,.nil,.nil,.int 0] 30
 (.ret [.var 30]))
 (.ret [.bool false])))
 (.ret [.bool false]))
 (.ret [.bool false]))
 (.ret [.bool false]))
 (.call 76 [.var 0,.var 1,.var 2,.var 3,.var 4] 29
 (.ite (.lt (.var 5) (.int 0))
 (.ite (.not (.eq (.var 18) (.int 5)))
 (.ret [.bool false])
 (.call 60 [.var 13,.var 14,.var 15,.var 16,.var 17,.nil,.nil,.nil,.nil,.int 0] 30
 (.ite (.not (.var 30))
 (.ret [.bool false])
 (.call 65 [.var 6,.var 7] 31
 (.ite (.not (.var 31))
 (.ite (.eq (.var 25) (.int 3))
 (.ite (.eq (.var 24) (.int 0))
 (.call 60 [.var 19,.var 20,.var 21,.var 22,.var 23,.nil,.nil,.nil,.nil,.int 0] 32
 (.ret [.var 32]))
 (.ret [.bool false]))
 (.ret [.bool false]))
 (.loop 32 [.int .i64] [.int 0]
 (.ite (.lt (.var 33) (.len (.var 29)))
 (.need (.le (.int 0) (.var 33))
 (.ite (.and (.eq (.cell (.var 29) (.var 33) 0) (.var 6)) (.and (.eq (.cell (.var 29) (.var 33) 1) (.var 7)) (.bool true)))
 (.ite (.lt (.var 33) (.int 0))
 (.ite (.eq (.var 25) (.int 5))
 (.ite (.eq (.var 24) (.int 0))
 (.call 60 [.var 19,.var 20,.var 21,.var 22,.var 23,.nil,.nil,.nil,.nil,.int 0] 34
 (.ret [.var 34]))
 (.ret [.bool false]))
 (.ret [.bool false]))
 (.call 88 [.var 6,.var 7,.len (.var 1)] 34
 (.call 77 [.var 0,.var 1,.var 2,.var 3,.var 4,.var 34] 35
 (.loop 37 [.int .i64,.int .i64] [.int 0,.int 0]
 (.ite (.lt (.var 39) (.len (.var 35)))
 (.need (.le (.int 0) (.var 39))
 (.ite (.eq (.cell (.var 35) (.var 39) 0) (.cell (.var 29) (.var 33) 2))
 (.call 62 [.var 0,.var 1,.var 2,.var 3,.var 4] 40
 (.call 89 [.var 40,.var 41,.var 42,.var 43,.var 44,.var 38,.cell (.var 29) (.var 33) 2,.var 34] 45
 (.ite (.eq (.var 25) (.int 0))
 (.ite (.eq (.var 24) (.cell (.var 29) (.var 33) 2))
 (.call 60 [.var 19,.var 20,.var 21,.var 22,.var 23,.var 45,.var 46,.var 47,.var 48,.var 49] 50
 (.ret [.var 50]))
 (.ret [.bool false]))
 (.ret [.bool false]))))
 (.need (.fit (.add (.cell (.var 35) (.var 39) 0) (.int 1)))
 (.need (.fit (.add (.var 39) (.int 1)))
 (.back 37 [.add (.cell (.var 35) (.var 39) 0) (.int 1),.add (.var 39) (.int 1)])))))
 (.call 62 [.var 0,.var 1,.var 2,.var 3,.var 4] 40
 (.call 89 [.var 40,.var 41,.var 42,.var 43,.var 44,.var 38,.cell (.var 29) (.var 33) 2,.var 34] 45
 (.ite (.eq (.var 25) (.int 0))
 (.ite (.eq (.var 24) (.cell (.var 29) (.var 33) 2))
 (.call 60 [.var 19,.var 20,.var 21,.var 22,.var 23,.var 45,.var 46,.var 47,.var 48,.var 49] 50
 (.ret [.var 50]))
 (.ret [.bool false]))
 (.ret [.bool false])))))))))
 (.need (.fit (.add (.var 33) (.int 1)))
 (.back 32 [.add (.var 33) (.int 1)]))))
 (.ite (.eq (.var 25) (.int 5))
 (.ite (.eq (.var 24) (.int 0))
 (.call 60 [.var 19,.var 20,.var 21,.var 22,.var 23,.nil,.nil,.nil,.nil,.int 0] 34
 (.ret [.var 34]))
 (.ret [.bool false]))
 (.ret [.bool false])))))))))
 (.ite (.le (.len (.var 0)) (.var 5))
 (.ite (.not (.eq (.var 18) (.int 5)))
 (.ret [.bool false])
 (.call 60 [.var 13,.var 14,.var 15,.var 16,.var 17,.nil,.nil,.nil,.nil,.int 0] 30
 (.ite (.not (.var 30))
 (.ret [.bool false])
 (.call 65 [.var 6,.var 7] 31
 (.ite (.not (.var 31))
 (.ite (.eq (.var 25) (.int 3))
 (.ite (.eq (.var 24) (.int 0))
 (.call 60 [.var 19,.var 20,.var 21,.var 22,.var 23,.nil,.nil,.nil,.nil,.int 0] 32
 (.ret [.var 32]))
 (.ret [.bool false]))
 (.ret [.bool false]))
 (.loop 32 [.int .i64] [.int 0]
 (.ite (.lt (.var 33) (.len (.var 29)))
 (.need (.le (.int 0) (.var 33))
 (.ite (.and (.eq (.cell (.var 29) (.var 33) 0) (.var 6)) (.and (.eq (.cell (.var 29) (.var 33) 1) (.var 7)) (.bool true)))
 (.ite (.lt (.var 33) (.int 0))
 (.ite (.eq (.var 25) (.int 5))
 (.ite (.eq (.var 24) (.int 0))
 (.call 60 [.var 19,.var 20,.var 21,.var 22,.var 23,.nil,.nil,.nil,.nil,.int 0] 34
 (.ret [.var 34]))
 (.ret [.bool false]))
 (.ret [.bool false]))
 (.call 88 [.var 6,.var 7,.len (.var 1)] 34
 (.call 77 [.var 0,.var 1,.var 2,.var 3,.var 4,.var 34] 35
 (.loop 37 [.int .i64,.int .i64] [.int 0,.int 0]
 (.ite (.lt (.var 39) (.len (.var 35)))
 (.need (.le (.int 0) (.var 39))
 (.ite (.eq (.cell (.var 35) (.var 39) 0) (.cell (.var 29) (.var 33) 2))
 (.call 62 [.var 0,.var 1,.var 2,.var 3,.var 4] 40
 (.call 89 [.var 40,.var 41,.var 42,.var 43,.var 44,.var 38,.cell (.var 29) (.var 33) 2,.var 34] 45
 (.ite (.eq (.var 25) (.int 0))
 (.ite (.eq (.var 24) (.cell (.var 29) (.var 33) 2))
 (.call 60 [.var 19,.var 20,.var 21,.var 22,.var 23,.var 45,.var 46,.var 47,.var 48,.var 49] 50
 (.ret [.var 50]))
 (.ret [.bool false]))
 (.ret [.bool false]))))
 (.need (.fit (.add (.cell (.var 35) (.var 39) 0) (.int 1)))
 (.need (.fit (.add (.var 39) (.int 1)))
 (.back 37 [.add (.cell (.var 35) (.var 39) 0) (.int 1),.add (.var 39) (.int 1)])))))
 (.call 62 [.var 0,.var 1,.var 2,.var 3,.var 4] 40
 (.call 89 [.var 40,.var 41,.var 42,.var 43,.var 44,.var 38,.cell (.var 29) (.var 33) 2,.var 34] 45
 (.ite (.eq (.var 25) (.int 0))
 (.ite (.eq (.var 24) (.cell (.var 29) (.var 33) 2))
 (.call 60 [.var 19,.var 20,.var 21,.var 22,.var 23,.var 45,.var 46,.var 47,.var 48,.var 49] 50
 (.ret [.var 50]))
 (.ret [.bool false]))
 (.ret [.bool false])))))))))
 (.need (.fit (.add (.var 33) (.int 1)))
 (.back 32 [.add (.var 33) (.int 1)]))))
 (.ite (.eq (.var 25) (.int 5))
 (.ite (.eq (.var 24) (.int 0))
 (.call 60 [.var 19,.var 20,.var 21,.var 22,.var 23,.nil,.nil,.nil,.nil,.int 0] 34
 (.ret [.var 34]))
 (.ret [.bool false]))
 (.ret [.bool false])))))))))
 (.need (.le (.int 0) (.var 5))
 (.need (.lt (.var 5) (.len (.var 0)))
 (.ite (.eq (.cell (.var 0) (.var 5) 0) (.int 0))
 (.ite (.not (.eq (.var 18) (.int 8)))
 (.ret [.bool false])
 (.call 60 [.var 13,.var 14,.var 15,.var 16,.var 17,.nil,.nil,.nil,.nil,.int 0] 30
 (.ite (.not (.var 30))
 (.ret [.bool false])
 (.call 65 [.var 6,.var 7] 31
 (.ite (.not (.var 31))
 (.ite (.eq (.var 25) (.int 3))
 (.ite (.eq (.var 24) (.int 0))
 (.call 60 [.var 19,.var 20,.var 21,.var 22,.var 23,.nil,.nil,.nil,.nil,.int 0] 32
 (.ret [.var 32]))
 (.ret [.bool false]))
 (.ret [.bool false]))
 (.loop 32 [.int .i64] [.int 0]
 (.ite (.lt (.var 33) (.len (.var 29)))
 (.need (.le (.int 0) (.var 33))
 (.ite (.and (.eq (.cell (.var 29) (.var 33) 0) (.var 6)) (.and (.eq (.cell (.var 29) (.var 33) 1) (.var 7)) (.bool true)))
 (.ite (.lt (.var 33) (.int 0))
 (.ite (.eq (.var 25) (.int 5))
 (.ite (.eq (.var 24) (.int 0))
 (.call 60 [.var 19,.var 20,.var 21,.var 22,.var 23,.nil,.nil,.nil,.nil,.int 0] 34
 (.ret [.var 34]))
 (.ret [.bool false]))
 (.ret [.bool false]))
 (.call 88 [.var 6,.var 7,.len (.var 1)] 34
 (.call 77 [.var 0,.var 1,.var 2,.var 3,.var 4,.var 34] 35
 (.loop 37 [.int .i64,.int .i64] [.int 0,.int 0]
 (.ite (.lt (.var 39) (.len (.var 35)))
 (.need (.le (.int 0) (.var 39))
 (.ite (.eq (.cell (.var 35) (.var 39) 0) (.cell (.var 29) (.var 33) 2))
 (.call 62 [.var 0,.var 1,.var 2,.var 3,.var 4] 40
 (.call 89 [.var 40,.var 41,.var 42,.var 43,.var 44,.var 38,.cell (.var 29) (.var 33) 2,.var 34] 45
 (.ite (.eq (.var 25) (.int 0))
 (.ite (.eq (.var 24) (.cell (.var 29) (.var 33) 2))
 (.call 60 [.var 19,.var 20,.var 21,.var 22,.var 23,.var 45,.var 46,.var 47,.var 48,.var 49] 50
 (.ret [.var 50]))
 (.ret [.bool false]))
 (.ret [.bool false]))))
 (.need (.fit (.add (.cell (.var 35) (.var 39) 0) (.int 1)))
 (.need (.fit (.add (.var 39) (.int 1)))
 (.back 37 [.add (.cell (.var 35) (.var 39) 0) (.int 1),.add (.var 39) (.int 1)])))))
 (.call 62 [.var 0,.var 1,.var 2,.var 3,.var 4] 40
 (.call 89 [.var 40,.var 41,.var 42,.var 43,.var 44,.var 38,.cell (.var 29) (.var 33) 2,.var 34] 45
 (.ite (.eq (.var 25) (.int 0))
 (.ite (.eq (.var 24) (.cell (.var 29) (.var 33) 2))
 (.call 60 [.var 19,.var 20,.var 21,.var 22,.var 23,.var 45,.var 46,.var 47,.var 48,.var 49] 50
 (.ret [.var 50]))
 (.ret [.bool false]))
 (.ret [.bool false])))))))))
 (.need (.fit (.add (.var 33) (.int 1)))
 (.back 32 [.add (.var 33) (.int 1)]))))
 (.ite (.eq (.var 25) (.int 5))
 (.ite (.eq (.var 24) (.int 0))
 (.call 60 [.var 19,.var 20,.var 21,.var 22,.var 23,.nil,.nil,.nil,.nil,.int 0] 34
 (.ret [.var 34]))
 (.ret [.bool false]))
 (.ret [.bool false])))))))))
 (.loop 30 [.int .i64] [.int 0]
 (.ite (.lt (.var 31) (.len (.var 29)))
 (.need (.le (.int 0) (.var 31))
 (.ite (.and (.eq (.cell (.var 29) (.var 31) 0) (.cell (.var 0) (.var 5) 1)) (.and (.eq (.cell (.var 29) (.var 31) 1) (.cell (.var 0) (.var 5) 2)) (.bool true)))
 (.ite (.not (.eq (.var 18) (.int 6)))
 (.ret [.bool false])
 (.call 60 [.var 13,.var 14,.var 15,.var 16,.var 17,.nil,.nil,.nil,.nil,.int 0] 32
 (.ite (.not (.var 32))
 (.ret [.bool false])
 (.call 65 [.var 6,.var 7] 33
 (.ite (.not (.var 33))
 (.ite (.eq (.var 25) (.int 3))
 (.ite (.eq (.var 24) (.int 0))
 (.call 60 [.var 19,.var 20,.var 21,.var 22,.var 23,.nil,.nil,.nil,.nil,.int 0] 34
 (.ret [.var 34]))
 (.ret [.bool false]))
 (.ret [.bool false]))
 (.loop 34 [.int .i64] [.int 0]
 (.ite (.lt (.var 35) (.len (.var 29)))
 (.need (.le (.int 0) (.var 35))
 (.ite (.and (.eq (.cell (.var 29) (.var 35) 0) (.var 6)) (.and (.eq (.cell (.var 29) (.var 35) 1) (.var 7)) (.bool true)))
 (.ite (.lt (.var 35) (.int 0))
 (.ite (.eq (.var 25) (.int 5))
 (.ite (.eq (.var 24) (.int 0))
 (.call 60 [.var 19,.var 20,.var 21,.var 22,.var 23,.nil,.nil,.nil,.nil,.int 0] 36
 (.ret [.var 36]))
 (.ret [.bool false]))
 (.ret [.bool false]))
 (.call 88 [.var 6,.var 7,.len (.var 1)] 36
 (.call 77 [.var 0,.var 1,.var 2,.var 3,.var 4,.var 36] 37
 (.loop 39 [.int .i64,.int .i64] [.int 0,.int 0]
 (.ite (.lt (.var 41) (.len (.var 37)))
 (.need (.le (.int 0) (.var 41))
 (.ite (.eq (.cell (.var 37) (.var 41) 0) (.cell (.var 29) (.var 35) 2))
 (.call 62 [.var 0,.var 1,.var 2,.var 3,.var 4] 42
 (.call 89 [.var 42,.var 43,.var 44,.var 45,.var 46,.var 40,.cell (.var 29) (.var 35) 2,.var 36] 47
 (.ite (.eq (.var 25) (.int 0))
 (.ite (.eq (.var 24) (.cell (.var 29) (.var 35) 2))
 (.call 60 [.var 19,.var 20,.var 21,.var 22,.var 23,.var 47,.var 48,.var 49,.var 50,.var 51] 52
 (.ret [.var 52]))
 (.ret [.bool false]))
 (.ret [.bool false]))))
 (.need (.fit (.add (.cell (.var 37) (.var 41) 0) (.int 1)))
 (.need (.fit (.add (.var 41) (.int 1)))
 (.back 39 [.add (.cell (.var 37) (.var 41) 0) (.int 1),.add (.var 41) (.int 1)])))))
 (.call 62 [.var 0,.var 1,.var 2,.var 3,.var 4] 42
 (.call 89 [.var 42,.var 43,.var 44,.var 45,.var 46,.var 40,.cell (.var 29) (.var 35) 2,.var 36] 47
 (.ite (.eq (.var 25) (.int 0))
 (.ite (.eq (.var 24) (.cell (.var 29) (.var 35) 2))
 (.call 60 [.var 19,.var 20,.var 21,.var 22,.var 23,.var 47,.var 48,.var 49,.var 50,.var 51] 52
 (.ret [.var 52]))
 (.ret [.bool false]))
 (.ret [.bool false])))))))))
 (.need (.fit (.add (.var 35) (.int 1)))
 (.back 34 [.add (.var 35) (.int 1)]))))
 (.ite (.eq (.var 25) (.int 5))
 (.ite (.eq (.var 24) (.int 0))
 (.call 60 [.var 19,.var 20,.var 21,.var 22,.var 23,.nil,.nil,.nil,.nil,.int 0] 36
 (.ret [.var 36]))
 (.ret [.bool false]))
 (.ret [.bool false])))))))))
 (.need (.fit (.add (.var 31) (.int 1)))
 (.back 30 [.add (.var 31) (.int 1)]))))
 (.call 62 [.var 0,.var 1,.var 2,.var 3,.var 4] 32
 (.call 88 [.cell (.var 0) (.var 5) 1,.cell (.var 0) (.var 5) 2,.len (.var 1)] 37
 (.call 87 [.var 32,.var 33,.var 34,.var 35,.var 36,.var 5,.var 37] 38
 (.ite (.not (.eq (.var 18) (.int 0)))
 (.ret [.bool false])
 (.call 60 [.var 13,.var 14,.var 15,.var 16,.var 17,.var 38,.var 39,.var 40,.var 41,.var 42] 43
 (.ite (.not (.var 43))
 (.ret [.bool false])
 (.call 65 [.var 6,.var 7] 44
 (.ite (.not (.var 44))
 (.ite (.eq (.var 25) (.int 3))
 (.ite (.eq (.var 24) (.int 0))
 (.call 60 [.var 19,.var 20,.var 21,.var 22,.var 23,.nil,.nil,.nil,.nil,.int 0] 45
 (.ret [.var 45]))
 (.ret [.bool false]))
 (.ret [.bool false]))
 (.loop 45 [.int .i64] [.int 0]
 (.ite (.lt (.var 46) (.len (.var 29)))
 (.need (.le (.int 0) (.var 46))
 (.ite (.and (.eq (.cell (.var 29) (.var 46) 0) (.var 6)) (.and (.eq (.cell (.var 29) (.var 46) 1) (.var 7)) (.bool true)))
 (.ite (.lt (.var 46) (.int 0))
 (.ite (.eq (.var 25) (.int 5))
 (.ite (.eq (.var 24) (.int 0))
 (.call 60 [.var 19,.var 20,.var 21,.var 22,.var 23,.nil,.nil,.nil,.nil,.int 0] 47
 (.ret [.var 47]))
 (.ret [.bool false]))
 (.ret [.bool false]))
 (.call 88 [.var 6,.var 7,.len (.var 1)] 47
 (.call 77 [.var 0,.var 1,.var 2,.var 3,.var 4,.var 47] 48
 (.loop 50 [.int .i64,.int .i64] [.int 0,.int 0]
 (.ite (.lt (.var 52) (.len (.var 48)))
 (.need (.le (.int 0) (.var 52))
 (.ite (.eq (.cell (.var 48) (.var 52) 0) (.cell (.var 29) (.var 46) 2))
 (.call 62 [.var 0,.var 1,.var 2,.var 3,.var 4] 53
 (.call 89 [.var 53,.var 54,.var 55,.var 56,.var 57,.var 51,.cell (.var 29) (.var 46) 2,.var 47] 58
 (.ite (.eq (.var 25) (.int 0))
 (.ite (.eq (.var 24) (.cell (.var 29) (.var 46) 2))
 (.call 60 [.var 19,.var 20,.var 21,.var 22,.var 23,.var 58,.var 59,.var 60,.var 61,.var 62] 63
 (.ret [.var 63]))
 (.ret [.bool false]))
 (.ret [.bool false]))))
 (.need (.fit (.add (.cell (.var 48) (.var 52) 0) (.int 1)))
 (.need (.fit (.add (.var 52) (.int 1)))
 (.back 50 [.add (.cell (.var 48) (.var 52) 0) (.int 1),.add (.var 52) (.int 1)])))))
 (.call 62 [.var 0,.var 1,.var 2,.var 3,.var 4] 53
 (.call 89 [.var 53,.var 54,.var 55,.var 56,.var 57,.var 51,.cell (.var 29) (.var 46) 2,.var 47] 58
 (.ite (.eq (.var 25) (.int 0))
 (.ite (.eq (.var 24) (.cell (.var 29) (.var 46) 2))
 (.call 60 [.var 19,.var 20,.var 21,.var 22,.var 23,.var 58,.var 59,.var 60,.var 61,.var 62] 63
 (.ret [.var 63]))
 (.ret [.bool false]))
 (.ret [.bool false])))))))))
 (.need (.fit (.add (.var 46) (.int 1)))
 (.back 45 [.add (.var 46) (.int 1)]))))
 (.ite (.eq (.var 25) (.int 5))
 (.ite (.eq (.var 24) (.int 0))
 (.call 60 [.var 19,.var 20,.var 21,.var 22,.var 23,.nil,.nil,.nil,.nil,.int 0] 47
 (.ret [.var 47]))
 (.ret [.bool false]))
 (.ret [.bool false])))))))))))))))))))))))))))))
theorem run13 : run z13 6000 [.code (Try.f13.body.getD .skip),.fin (bt z13 Try.f13.results.toList 50)] { fn:=13,tmps:=z13.sig.aM ++ List.replicate (Try.f13.ntmps - z13.sig.aM.length) (.v (.one .undef)),stk:=[],h:=z13.sig.h0,nx:=z13.sig.ins.length,known:=[]}=t13:=by kernel_rfl
set_option maxHeartbeats 4000000 in
theorem ok13 : cB Try.prog 13 d13.ct:=by
 refine aD (d:=d13) (Z:=z13) (Γ:=gam l13) (fn:=Try.f13) (c:=Try.f13.body.getD .skip) (bg tok mixed (all_cons ok62 (all_cons ok82 (all_cons ok83 (all_cons ok72 (all_cons ok73 (all_cons ok60 (all_cons ok76 (all_cons ok65 (all_cons ok88 (all_cons ok77 (all_cons ok89 (all_cons ok87 all_nil)))))))))))) (dX (c:=Try.f84.body.getD .skip) Try.func84 (by kernel_rfl) (by kernel_rfl) (dX (c:=Try.f85.body.getD .skip) Try.func85 (by kernel_rfl) (by kernel_rfl) (dX (c:=Try.f86.body.getD .skip) Try.func86 (by kernel_rfl) (by kernel_rfl) bh)))) Try.func13 (by kernel_rfl) (by kernel_rfl) rfl run13 fun E hk hp=>?_
 obtain ⟨hk0,hk1,hk2,hk3,hk4,hk5,hk6,hk7,_⟩:=hk
 obtain ⟨m,e0,e1,e2,e3,e4,b0,b1,b2,b3⟩:=cv (d0:=E 0) (d1:=E 1) (d2:=E 2) (d3:=E 3) (d4:=E 4) hk0 hk1 hk2 hk3 hk4
 obtain ⟨x,e5⟩:=ok_int (d:=E 5) hk5
 obtain ⟨k,e6,e7⟩:=vM (d0:=E 6) (d1:=E 7) hk6 hk7
 have el : aH E d13.sig.ins.length=[au m.slots,af m.heads,af m.free,af m.locks,.i m.now,.i x,.i k.a,.i k.b]:=by
  show [E 0,E 1,E 2,E 3,E 4,E 5,E 6,E 7]=_
  rw [e0,e1,e2,e3,e4,e5,e6,e7]
 rw [el] at hp
 rw [el]
 rw [Env.bJ el]
 clear el e0 e1 e2 e3 e4 e5 e6 e7
 simp only [d13]
 unfold t13
 refine ai d62 m.cds rfl trivial (by simp only [nrm,xdn,reduceIte,Nat.reduceLT,Nat.reduceSub,Nat.reduceAdd,fn62]) ?_
 refine ai d82 ((linked m x).1.cds ++ [.i (linked m x).2]) rfl trivial (by simp only [nrm,xdn,reduceIte,Nat.reduceLT,Nat.reduceSub,Nat.reduceAdd,Mem.cds,lca,fn82]) ?_
 refine ai d83 ((EA m k).1.cds ++ [.i (EA m k).2.1,.i (EA m k).2.2]) rfl trivial (by simp only [nrm,xdn,reduceIte,Nat.reduceLT,Nat.reduceSub,Nat.reduceAdd,Mem.cds,lca,fn83,eZ]) ?_
 refine ai d72 [.i (bU m)] rfl trivial (by simp only [nrm,xdn,reduceIte,Nat.reduceLT,Nat.reduceSub,Nat.reduceAdd,fn72]) ?_
 refine ai d73 [.b true] rfl trivial rfl ?_
 refine Fk (by simp only [nrm,xdn,reduceIte,Nat.reduceLT,Nat.reduceSub,Nat.reduceAdd,Mem.cds,lca,decide_true,Bool.not_true,not_true_eq_false,decide_false,beq_self_eq_true]) ?_
 refine ai d60 [.b true] rfl trivial (by simp only [nrm,xdn,reduceIte,Nat.reduceLT,Nat.reduceSub,Nat.reduceAdd,Mem.cds,lca,H0]) ?_
 refine Fk (by simp only [nrm,xdn,reduceIte,Nat.reduceLT,Nat.reduceSub,Nat.reduceAdd,Mem.cds,lca,decide_true,Bool.not_true,not_true_eq_false,decide_false,beq_self_eq_true]) ?_
 refine G0 (fun h=>?_) (fun h=>?_)
 ·simp only [nrm,xdn,reduceIte,Nat.reduceLT,Nat.reduceSub,Nat.reduceAdd,Mem.cds,lca,Bool.not_eq_true'] at h
  have hL : linked m x=(Mem.none,bU m):=by unfold linked;rw [if_pos h]
  have hW : EA m k=(Mem.none,0,bU m):=by unfold EA;rw [if_pos h]
  rw [hL,hW]
  refine Bf (by simp only [nrm,xdn,reduceIte,Nat.reduceLT,Nat.reduceSub,Nat.reduceAdd,Mem.cds,lca]) ?_
  refine Bf (by simp only [nrm,xdn,reduceIte,Nat.reduceLT,Nat.reduceSub,Nat.reduceAdd,Mem.cds,lca]) ?_
  refine Bf (by simp only [nrm,xdn,reduceIte,Nat.reduceLT,Nat.reduceSub,Nat.reduceAdd,Mem.cds,lca]) ?_
  refine ai d60 [.b true] rfl trivial (by simp only [nrm,xdn,reduceIte,Nat.reduceLT,Nat.reduceSub,Nat.reduceAdd,Mem.cds,Mem.none,G5,G7,lca,Hs]) ?_
  refine Bf (by simp only [nrm,xdn,reduceIte,Nat.reduceLT,Nat.reduceSub,Nat.reduceAdd,Mem.cds,lca]) ?_
  refine ai d60 [.b true] rfl trivial (by simp only [nrm,xdn,reduceIte,Nat.reduceLT,Nat.reduceSub,Nat.reduceAdd,Mem.cds,Mem.none,G5,G7,lca,Hs]) ?_
  refine aj ?_
  simp only [nrm,xdn,reduceIte,Nat.reduceLT,Nat.reduceSub,Nat.reduceAdd]
 simp only [nrm,xdn,reduceIte,Nat.reduceLT,Nat.reduceSub,Nat.reduceAdd,Mem.cds,lca,Bool.not_eq_false'] at h
 have hC:=(rN m).1 h
 have hm:=hC.mem
 have hns:=hm.ns
 have hnh:=hm.nh4
 have hnh1:=hm.nh1
 refine ai d76 [eM (aq m)] rfl ?_ (by simp only [nrm,xdn,reduceIte,Nat.reduceLT,Nat.reduceSub,Nat.reduceAdd,fn76]) ?_
 ·simp only [nrm,xdn,reduceIte,Nat.reduceLT,Nat.reduceSub,Nat.reduceAdd,d76,mem_of,aA]
  exact h
 refine G0 (fun a1=>?_) (fun a1=>G0 (fun a1=>?_) (fun a2=>?_))
 ·simp only [nrm,xdn,reduceIte,Nat.reduceLT,Nat.reduceSub,Nat.reduceAdd] at a1
  have hL : linked m x=(Mem.none,5):=by unfold linked;rw [if_neg (by omega),if_pos (by omega)]
  rw [hL]
  refine Fk (by simp only [nrm,xdn,reduceIte,Nat.reduceLT,Nat.reduceSub,Nat.reduceAdd,Mem.cds,lca,decide_true,Bool.not_true,not_true_eq_false,decide_false,beq_self_eq_true]) ?_
  refine ai d60 [.b true] rfl trivial (by simp only [nrm,xdn,reduceIte,Nat.reduceLT,Nat.reduceSub,Nat.reduceAdd,Mem.cds,Mem.none,G5,G7,lca,Hs]) ?_
  refine Fk (by simp only [nrm,xdn,reduceIte,Nat.reduceLT,Nat.reduceSub,Nat.reduceAdd,Mem.cds,lca,decide_true,Bool.not_true,not_true_eq_false,decide_false,beq_self_eq_true]) ?_
  refine ai d65 [.b (isKey k)] rfl trivial (by simp only [nrm,xdn,reduceIte,Nat.reduceLT,Nat.reduceSub,Nat.reduceAdd,fn65]) (G0 (fun c1=>?_) (fun c1=>?_))
  ·simp only [nrm,xdn,reduceIte,Nat.reduceLT,Nat.reduceSub,Nat.reduceAdd,Bool.not_eq_true'] at c1
   have hb:=HL (n:=m.heads.length) (I0 c1)
   have hW : EA m k=(Mem.none,0,3):=by unfold EA;rw [if_neg (by omega),hb,if_pos (by decide)]
   rw [hW]
   refine Bf (by simp only [nrm,xdn,reduceIte,Nat.reduceLT,Nat.reduceSub,Nat.reduceAdd,Mem.cds,lca]) ?_
   refine Bf (by simp only [nrm,xdn,reduceIte,Nat.reduceLT,Nat.reduceSub,Nat.reduceAdd,Mem.cds,lca]) ?_
   refine ai d60 [.b true] rfl trivial (by simp only [nrm,xdn,reduceIte,Nat.reduceLT,Nat.reduceSub,Nat.reduceAdd,Mem.cds,Mem.none,G5,G7,lca,Hs]) ?_
   refine aj ?_
   simp only [nrm,xdn,reduceIte,Nat.reduceLT,Nat.reduceSub,Nat.reduceAdd]
  simp only [nrm,xdn,reduceIte,Nat.reduceLT,Nat.reduceSub,Nat.reduceAdd,Bool.not_eq_false'] at c1
  have hk:=GC c1
  obtain ⟨b1,b2,b3⟩:=jq hm hk
  refine bO (fun ds=>∃ i : Nat,ds=[.i i]∧i≤(aq m).length∧∀ j,j < i→((aq m).getD j default).k≠k) (fun ds=>(aq m).length - (ds.getD 0 .u).int.toNat) ⟨0,rfl,by omega,by omega⟩ ?_
  rintro ds - ⟨i,rfl,hi,ht⟩
  refine G0 (fun hlt=>?_) (fun hge=>?_)
  ·simp only [nrm,xdn,reduceIte,Nat.reduceLT,Nat.reduceSub,Nat.reduceAdd,iT] at hlt
   have hf:=He (l:=aq m) (i:=i) (by omega)
   have r2 : ((eM (aq m)).rows.getD i []).getD 2 .u=.i ((aq m).getD i default).slot:=Kb (by omega)
   refine ag (by simp only [nrm,xdn,reduceIte,Nat.reduceLT,Nat.reduceSub,Nat.reduceAdd];omega) (G0 (fun c2=>?_) (fun c2=>?_))
   ·simp only [nrm,xdn,reduceIte,Nat.reduceLT,Nat.reduceSub,Nat.reduceAdd,Int.toNat_natCast,Hb,Ha,Bool.and_eq_true,and_true] at c2
    have e:=HW c2.1 c2.2
    generalize (aq m).getD i default=f at *
    subst e
    have hW:=Hy hC hf hk
    obtain ⟨g1,g2,g3,_,_,_,g7⟩:=jj hC hf
    rw [hW]
    have hbn : (((bk m f.k).toNat : Nat) : Int)=bk m f.k:=by omega
    have hCh:=hC.ch (b:=(bk m f.k).toNat) (by omega)
    obtain ⟨q1,q2⟩:=H8 hCh.of
    rw [hbn] at q1
    have hll : (chL m (bk m f.k).toNat).length≤m.slots.length:=(oL hm _).1
    have hlm : ∀ a∈chL m (bk m f.k).toNat,0≤a∧a < m.slots.length:=fun a ha=>cW hC ha
    refine Fk (by simp only [nrm,xdn,reduceIte,Nat.reduceLT,Nat.reduceSub,Nat.reduceAdd];omega) ?_
    refine ai d88 [.i (bk m f.k)] rfl ?_ (by simp only [nrm,xdn,reduceIte,Nat.reduceLT,Nat.reduceSub,Nat.reduceAdd,aw,fn88];rfl) ?_
    ·simp only [nrm,xdn,reduceIte,Nat.reduceLT,Nat.reduceSub,Nat.reduceAdd,aw]
     have hh : d88.pre [.i f.k.a,.i f.k.b,.i m.heads.length]:=⟨hk,(by show (1 : Int)≤(m.heads.length : Int);omega),(by show (m.heads.length : Int)≤4;omega)⟩
     exact hh
    refine ai d77 [af (chL m (bk m f.k).toNat),.b true] rfl ?_ (by simp only [nrm,xdn,reduceIte,Nat.reduceLT,Nat.reduceSub,Nat.reduceAdd,fn77,q1]) ?_
    ·simp only [nrm,xdn,reduceIte,Nat.reduceLT,Nat.reduceSub,Nat.reduceAdd]
     exact pre77 hm b1 b2
    generalize chL m (bk m f.k).toNat=l at *
    generalize bk m f.k=b at *
    refine bO (fun ds=>∃ (j : Nat) (p : Int),ds=[.i p,.i j]∧j≤l.length∧0≤p∧p≤m.slots.length∧gk f.slot l 0=gk f.slot (l.drop j) p∧f.slot∈l.drop j) (fun ds=>l.length - (ds.getD 1 .u).int.toNat) ⟨0,0,rfl,by omega,by omega,by omega,rfl,g7⟩ ?_
    rintro ds - ⟨j,p,rfl,hj,hp0,hp1,hpv,hmem⟩
    refine G0 (fun hlt'=>?_) (fun hge'=>?_)
    ·simp only [nrm,xdn,reduceIte,Nat.reduceLT,Nat.reduceSub,Nat.reduceAdd,aw] at hlt'
     have ha:=hlm (l.getD j 0) (pA (by omega))
     have hraw : ((af l).rows.getD j []).getD 0 .u=.i (l.getD j 0):=iK (by omega)
     rw [Ii (by omega)] at hpv hmem
     generalize hag : l.getD j 0=a at *
     refine ag (by simp only [nrm,xdn,reduceIte,Nat.reduceLT,Nat.reduceSub,Nat.reduceAdd];omega) (G0 (fun c3=>?_) (fun c3=>?_))
     ·simp only [nrm,xdn,reduceIte,Nat.reduceLT,Nat.reduceSub,Nat.reduceAdd,Int.toNat_natCast,hraw,r2] at c3
      rw [gk,if_pos c3] at hpv
      rw [hpv]
      refine ai d62 m.cds rfl trivial (by simp only [nrm,xdn,reduceIte,Nat.reduceLT,Nat.reduceSub,Nat.reduceAdd,fn62]) ?_
      refine ai d89 (cut m p f.slot b).cds rfl ?_ (by simp only [nrm,xdn,reduceIte,Nat.reduceLT,Nat.reduceSub,Nat.reduceAdd,Int.toNat_natCast,r2,Mem.cds,lca,fn89]) ?_
      ·simp only [nrm,xdn,reduceIte,Nat.reduceLT,Nat.reduceSub,Nat.reduceAdd,Int.toNat_natCast,r2,Mem.cds,lca]
       exact pre89 hp0 hp1 g1 g2 b1 b2
      generalize cut m p f.slot b=y at *
      refine Bf (by simp only [nrm,xdn,reduceIte,Nat.reduceLT,Nat.reduceSub,Nat.reduceAdd,Mem.cds,lca]) ?_
      refine Bf (by simp only [nrm,xdn,reduceIte,Nat.reduceLT,Nat.reduceSub,Nat.reduceAdd,Int.toNat_natCast,r2,Mem.cds,lca]) ?_
      refine ai d60 [.b true] rfl trivial (by simp only [nrm,xdn,reduceIte,Nat.reduceLT,Nat.reduceSub,Nat.reduceAdd,Mem.cds,lca,H0]) ?_
      refine aj ?_
      simp only [nrm,xdn,reduceIte,Nat.reduceLT,Nat.reduceSub,Nat.reduceAdd]
     ·simp only [nrm,xdn,reduceIte,Nat.reduceLT,Nat.reduceSub,Nat.reduceAdd,Int.toNat_natCast,hraw,r2] at c3
      rw [gk,if_neg c3] at hpv
      refine G1 (by simp only [nrm,xdn,reduceIte,Nat.reduceLT,Nat.reduceSub,Nat.reduceAdd,Int.toNat_natCast,hraw];omega) (G1 (by simp only [nrm,xdn,reduceIte,Nat.reduceLT,Nat.reduceSub,Nat.reduceAdd];omega) (aV ⟨⟨j + 1,a + 1,?_,by omega,by omega,by omega,hpv,?_⟩,?_⟩))
      ·simp only [nrm,xdn,reduceIte,Nat.reduceLT,Nat.reduceSub,Nat.reduceAdd,Int.toNat_natCast,hraw];rfl
      ·exact (List.mem_cons.1 hmem).resolve_left (fun e=>c3 e.symm)
      ·simp only [nrm,xdn,reduceIte,Nat.reduceLT,Nat.reduceSub,Nat.reduceAdd];omega
    ·simp only [nrm,xdn,reduceIte,Nat.reduceLT,Nat.reduceSub,Nat.reduceAdd,aw] at hge'
     rw [List.drop_of_length_le (by omega)] at hmem
     cases hmem
   ·simp only [nrm,xdn,reduceIte,Nat.reduceLT,Nat.reduceSub,Nat.reduceAdd,Int.toNat_natCast,Hb,Ha,Bool.and_eq_false_iff,or_false,Bool.true_eq_false] at c2
    have hfl:=pC hm
    refine G1 (by simp only [nrm,xdn,reduceIte,Nat.reduceLT,Nat.reduceSub,Nat.reduceAdd];omega) (aV ⟨⟨i + 1,?_,by omega,fun j hj=>?_⟩,?_⟩)
    ·simp only [nrm,xdn,reduceIte,Nat.reduceLT,Nat.reduceSub,Nat.reduceAdd];rfl
    ·rcases Nat.lt_or_ge j i with hl | hg
     ·exact ht j hl
     ·have : j=i:=by omega
      subst this
      intro e
      rw [e] at c2
      rcases c2 with c2 | c2 <;> exact c2 rfl
    ·simp only [nrm,xdn,reduceIte,Nat.reduceLT,Nat.reduceSub,Nat.reduceAdd];omega
  ·simp only [nrm,xdn,reduceIte,Nat.reduceLT,Nat.reduceSub,Nat.reduceAdd,iT] at hge
   have hW:=HM hC hk fun j hj=>ht j (by omega)
   rw [hW]
   refine Bf (by simp only [nrm,xdn,reduceIte,Nat.reduceLT,Nat.reduceSub,Nat.reduceAdd,Mem.cds,lca]) ?_
   refine Bf (by simp only [nrm,xdn,reduceIte,Nat.reduceLT,Nat.reduceSub,Nat.reduceAdd,Mem.cds,lca]) ?_
   refine ai d60 [.b true] rfl trivial (by simp only [nrm,xdn,reduceIte,Nat.reduceLT,Nat.reduceSub,Nat.reduceAdd,Mem.cds,Mem.none,G5,G7,lca,Hs]) ?_
   refine aj ?_
   simp only [nrm,xdn,reduceIte,Nat.reduceLT,Nat.reduceSub,Nat.reduceAdd]
 ·simp only [nrm,xdn,reduceIte,Nat.reduceLT,Nat.reduceSub,Nat.reduceAdd,aN] at a1
  have hL : linked m x=(Mem.none,5):=by unfold linked;rw [if_neg (by omega),if_pos (by omega)]
  rw [hL]
  refine Fk (by simp only [nrm,xdn,reduceIte,Nat.reduceLT,Nat.reduceSub,Nat.reduceAdd,Mem.cds,lca,decide_true,Bool.not_true,not_true_eq_false,decide_false,beq_self_eq_true]) ?_
  refine ai d60 [.b true] rfl trivial (by simp only [nrm,xdn,reduceIte,Nat.reduceLT,Nat.reduceSub,Nat.reduceAdd,Mem.cds,Mem.none,G5,G7,lca,Hs]) ?_
  refine Fk (by simp only [nrm,xdn,reduceIte,Nat.reduceLT,Nat.reduceSub,Nat.reduceAdd,Mem.cds,lca,decide_true,Bool.not_true,not_true_eq_false,decide_false,beq_self_eq_true]) ?_
  refine ai d65 [.b (isKey k)] rfl trivial (by simp only [nrm,xdn,reduceIte,Nat.reduceLT,Nat.reduceSub,Nat.reduceAdd,fn65]) (G0 (fun c1=>?_) (fun c1=>?_))
  ·simp only [nrm,xdn,reduceIte,Nat.reduceLT,Nat.reduceSub,Nat.reduceAdd,Bool.not_eq_true'] at c1
   have hb:=HL (n:=m.heads.length) (I0 c1)
   have hW : EA m k=(Mem.none,0,3):=by unfold EA;rw [if_neg (by omega),hb,if_pos (by decide)]
   rw [hW]
   refine Bf (by simp only [nrm,xdn,reduceIte,Nat.reduceLT,Nat.reduceSub,Nat.reduceAdd,Mem.cds,lca]) ?_
   refine Bf (by simp only [nrm,xdn,reduceIte,Nat.reduceLT,Nat.reduceSub,Nat.reduceAdd,Mem.cds,lca]) ?_
   refine ai d60 [.b true] rfl trivial (by simp only [nrm,xdn,reduceIte,Nat.reduceLT,Nat.reduceSub,Nat.reduceAdd,Mem.cds,Mem.none,G5,G7,lca,Hs]) ?_
   refine aj ?_
   simp only [nrm,xdn,reduceIte,Nat.reduceLT,Nat.reduceSub,Nat.reduceAdd]
  simp only [nrm,xdn,reduceIte,Nat.reduceLT,Nat.reduceSub,Nat.reduceAdd,Bool.not_eq_false'] at c1
  have hk:=GC c1
  obtain ⟨b1,b2,b3⟩:=jq hm hk
  refine bO (fun ds=>∃ i : Nat,ds=[.i i]∧i≤(aq m).length∧∀ j,j < i→((aq m).getD j default).k≠k) (fun ds=>(aq m).length - (ds.getD 0 .u).int.toNat) ⟨0,rfl,by omega,by omega⟩ ?_
  rintro ds - ⟨i,rfl,hi,ht⟩
  refine G0 (fun hlt=>?_) (fun hge=>?_)
  ·simp only [nrm,xdn,reduceIte,Nat.reduceLT,Nat.reduceSub,Nat.reduceAdd,iT] at hlt
   have hf:=He (l:=aq m) (i:=i) (by omega)
   have r2 : ((eM (aq m)).rows.getD i []).getD 2 .u=.i ((aq m).getD i default).slot:=Kb (by omega)
   refine ag (by simp only [nrm,xdn,reduceIte,Nat.reduceLT,Nat.reduceSub,Nat.reduceAdd];omega) (G0 (fun c2=>?_) (fun c2=>?_))
   ·simp only [nrm,xdn,reduceIte,Nat.reduceLT,Nat.reduceSub,Nat.reduceAdd,Int.toNat_natCast,Hb,Ha,Bool.and_eq_true,and_true] at c2
    have e:=HW c2.1 c2.2
    generalize (aq m).getD i default=f at *
    subst e
    have hW:=Hy hC hf hk
    obtain ⟨g1,g2,g3,_,_,_,g7⟩:=jj hC hf
    rw [hW]
    have hbn : (((bk m f.k).toNat : Nat) : Int)=bk m f.k:=by omega
    have hCh:=hC.ch (b:=(bk m f.k).toNat) (by omega)
    obtain ⟨q1,q2⟩:=H8 hCh.of
    rw [hbn] at q1
    have hll : (chL m (bk m f.k).toNat).length≤m.slots.length:=(oL hm _).1
    have hlm : ∀ a∈chL m (bk m f.k).toNat,0≤a∧a < m.slots.length:=fun a ha=>cW hC ha
    refine Fk (by simp only [nrm,xdn,reduceIte,Nat.reduceLT,Nat.reduceSub,Nat.reduceAdd];omega) ?_
    refine ai d88 [.i (bk m f.k)] rfl ?_ (by simp only [nrm,xdn,reduceIte,Nat.reduceLT,Nat.reduceSub,Nat.reduceAdd,aw,fn88];rfl) ?_
    ·simp only [nrm,xdn,reduceIte,Nat.reduceLT,Nat.reduceSub,Nat.reduceAdd,aw]
     have hh : d88.pre [.i f.k.a,.i f.k.b,.i m.heads.length]:=⟨hk,(by show (1 : Int)≤(m.heads.length : Int);omega),(by show (m.heads.length : Int)≤4;omega)⟩
     exact hh
    refine ai d77 [af (chL m (bk m f.k).toNat),.b true] rfl ?_ (by simp only [nrm,xdn,reduceIte,Nat.reduceLT,Nat.reduceSub,Nat.reduceAdd,fn77,q1]) ?_
    ·simp only [nrm,xdn,reduceIte,Nat.reduceLT,Nat.reduceSub,Nat.reduceAdd]
     exact pre77 hm b1 b2
    generalize chL m (bk m f.k).toNat=l at *
    generalize bk m f.k=b at *
    refine bO (fun ds=>∃ (j : Nat) (p : Int),ds=[.i p,.i j]∧j≤l.length∧0≤p∧p≤m.slots.length∧gk f.slot l 0=gk f.slot (l.drop j) p∧f.slot∈l.drop j) (fun ds=>l.length - (ds.getD 1 .u).int.toNat) ⟨0,0,rfl,by omega,by omega,by omega,rfl,g7⟩ ?_
    rintro ds - ⟨j,p,rfl,hj,hp0,hp1,hpv,hmem⟩
    refine G0 (fun hlt'=>?_) (fun hge'=>?_)
    ·simp only [nrm,xdn,reduceIte,Nat.reduceLT,Nat.reduceSub,Nat.reduceAdd,aw] at hlt'
     have ha:=hlm (l.getD j 0) (pA (by omega))
     have hraw : ((af l).rows.getD j []).getD 0 .u=.i (l.getD j 0):=iK (by omega)
     rw [Ii (by omega)] at hpv hmem
     generalize hag : l.getD j 0=a at *
     refine ag (by simp only [nrm,xdn,reduceIte,Nat.reduceLT,Nat.reduceSub,Nat.reduceAdd];omega) (G0 (fun c3=>?_) (fun c3=>?_))
     ·simp only [nrm,xdn,reduceIte,Nat.reduceLT,Nat.reduceSub,Nat.reduceAdd,Int.toNat_natCast,hraw,r2] at c3
      rw [gk,if_pos c3] at hpv
      rw [hpv]
      refine ai d62 m.cds rfl trivial (by simp only [nrm,xdn,reduceIte,Nat.reduceLT,Nat.reduceSub,Nat.reduceAdd,fn62]) ?_
      refine ai d89 (cut m p f.slot b).cds rfl ?_ (by simp only [nrm,xdn,reduceIte,Nat.reduceLT,Nat.reduceSub,Nat.reduceAdd,Int.toNat_natCast,r2,Mem.cds,lca,fn89]) ?_
      ·simp only [nrm,xdn,reduceIte,Nat.reduceLT,Nat.reduceSub,Nat.reduceAdd,Int.toNat_natCast,r2,Mem.cds,lca]
       exact pre89 hp0 hp1 g1 g2 b1 b2
      generalize cut m p f.slot b=y at *
      refine Bf (by simp only [nrm,xdn,reduceIte,Nat.reduceLT,Nat.reduceSub,Nat.reduceAdd,Mem.cds,lca]) ?_
      refine Bf (by simp only [nrm,xdn,reduceIte,Nat.reduceLT,Nat.reduceSub,Nat.reduceAdd,Int.toNat_natCast,r2,Mem.cds,lca]) ?_
      refine ai d60 [.b true] rfl trivial (by simp only [nrm,xdn,reduceIte,Nat.reduceLT,Nat.reduceSub,Nat.reduceAdd,Mem.cds,lca,H0]) ?_
      refine aj ?_
      simp only [nrm,xdn,reduceIte,Nat.reduceLT,Nat.reduceSub,Nat.reduceAdd]
     ·simp only [nrm,xdn,reduceIte,Nat.reduceLT,Nat.reduceSub,Nat.reduceAdd,Int.toNat_natCast,hraw,r2] at c3
      rw [gk,if_neg c3] at hpv
      refine G1 (by simp only [nrm,xdn,reduceIte,Nat.reduceLT,Nat.reduceSub,Nat.reduceAdd,Int.toNat_natCast,hraw];omega) (G1 (by simp only [nrm,xdn,reduceIte,Nat.reduceLT,Nat.reduceSub,Nat.reduceAdd];omega) (aV ⟨⟨j + 1,a + 1,?_,by omega,by omega,by omega,hpv,?_⟩,?_⟩))
      ·simp only [nrm,xdn,reduceIte,Nat.reduceLT,Nat.reduceSub,Nat.reduceAdd,Int.toNat_natCast,hraw];rfl
      ·exact (List.mem_cons.1 hmem).resolve_left (fun e=>c3 e.symm)
      ·simp only [nrm,xdn,reduceIte,Nat.reduceLT,Nat.reduceSub,Nat.reduceAdd];omega
    ·simp only [nrm,xdn,reduceIte,Nat.reduceLT,Nat.reduceSub,Nat.reduceAdd,aw] at hge'
     rw [List.drop_of_length_le (by omega)] at hmem
     cases hmem
   ·simp only [nrm,xdn,reduceIte,Nat.reduceLT,Nat.reduceSub,Nat.reduceAdd,Int.toNat_natCast,Hb,Ha,Bool.and_eq_false_iff,or_false,Bool.true_eq_false] at c2
    have hfl:=pC hm
    refine G1 (by simp only [nrm,xdn,reduceIte,Nat.reduceLT,Nat.reduceSub,Nat.reduceAdd];omega) (aV ⟨⟨i + 1,?_,by omega,fun j hj=>?_⟩,?_⟩)
    ·simp only [nrm,xdn,reduceIte,Nat.reduceLT,Nat.reduceSub,Nat.reduceAdd];rfl
    ·rcases Nat.lt_or_ge j i with hl | hg
     ·exact ht j hl
     ·have : j=i:=by omega
      subst this
      intro e
      rw [e] at c2
      rcases c2 with c2 | c2 <;> exact c2 rfl
    ·simp only [nrm,xdn,reduceIte,Nat.reduceLT,Nat.reduceSub,Nat.reduceAdd];omega
  ·simp only [nrm,xdn,reduceIte,Nat.reduceLT,Nat.reduceSub,Nat.reduceAdd,iT] at hge
   have hW:=HM hC hk fun j hj=>ht j (by omega)
   rw [hW]
   refine Bf (by simp only [nrm,xdn,reduceIte,Nat.reduceLT,Nat.reduceSub,Nat.reduceAdd,Mem.cds,lca]) ?_
   refine Bf (by simp only [nrm,xdn,reduceIte,Nat.reduceLT,Nat.reduceSub,Nat.reduceAdd,Mem.cds,lca]) ?_
   refine ai d60 [.b true] rfl trivial (by simp only [nrm,xdn,reduceIte,Nat.reduceLT,Nat.reduceSub,Nat.reduceAdd,Mem.cds,Mem.none,G5,G7,lca,Hs]) ?_
   refine aj ?_
   simp only [nrm,xdn,reduceIte,Nat.reduceLT,Nat.reduceSub,Nat.reduceAdd]
 simp only [nrm,xdn,reduceIte,Nat.reduceLT,Nat.reduceSub,Nat.reduceAdd,aN] at a1 a2
 have hm0 : m.slots.getD x.toNat default=msl m x.toNat:=rfl
 refine ag (by simp only [nrm,xdn,reduceIte,Nat.reduceLT,Nat.reduceSub,Nat.reduceAdd];omega) (ag (by simp only [nrm,xdn,reduceIte,Nat.reduceLT,Nat.reduceSub,Nat.reduceAdd,aN];omega) (G0 (fun a3=>?_) (fun a3=>?_)))
 ·simp only [nrm,xdn,reduceIte,Nat.reduceLT,Nat.reduceSub,Nat.reduceAdd,cX,hm0] at a3
  have hL : linked m x=(Mem.none,8):=by unfold linked;rw [if_neg (by omega),if_neg (by omega),if_pos a3]
  rw [hL]
  refine Fk (by simp only [nrm,xdn,reduceIte,Nat.reduceLT,Nat.reduceSub,Nat.reduceAdd,Mem.cds,lca,decide_true,Bool.not_true,not_true_eq_false,decide_false,beq_self_eq_true]) ?_
  refine ai d60 [.b true] rfl trivial (by simp only [nrm,xdn,reduceIte,Nat.reduceLT,Nat.reduceSub,Nat.reduceAdd,Mem.cds,Mem.none,G5,G7,lca,Hs]) ?_
  refine Fk (by simp only [nrm,xdn,reduceIte,Nat.reduceLT,Nat.reduceSub,Nat.reduceAdd,Mem.cds,lca,decide_true,Bool.not_true,not_true_eq_false,decide_false,beq_self_eq_true]) ?_
  refine ai d65 [.b (isKey k)] rfl trivial (by simp only [nrm,xdn,reduceIte,Nat.reduceLT,Nat.reduceSub,Nat.reduceAdd,fn65]) (G0 (fun c1=>?_) (fun c1=>?_))
  ·simp only [nrm,xdn,reduceIte,Nat.reduceLT,Nat.reduceSub,Nat.reduceAdd,Bool.not_eq_true'] at c1
   have hb:=HL (n:=m.heads.length) (I0 c1)
   have hW : EA m k=(Mem.none,0,3):=by unfold EA;rw [if_neg (by omega),hb,if_pos (by decide)]
   rw [hW]
   refine Bf (by simp only [nrm,xdn,reduceIte,Nat.reduceLT,Nat.reduceSub,Nat.reduceAdd,Mem.cds,lca]) ?_
   refine Bf (by simp only [nrm,xdn,reduceIte,Nat.reduceLT,Nat.reduceSub,Nat.reduceAdd,Mem.cds,lca]) ?_
   refine ai d60 [.b true] rfl trivial (by simp only [nrm,xdn,reduceIte,Nat.reduceLT,Nat.reduceSub,Nat.reduceAdd,Mem.cds,Mem.none,G5,G7,lca,Hs]) ?_
   refine aj ?_
   simp only [nrm,xdn,reduceIte,Nat.reduceLT,Nat.reduceSub,Nat.reduceAdd]
  simp only [nrm,xdn,reduceIte,Nat.reduceLT,Nat.reduceSub,Nat.reduceAdd,Bool.not_eq_false'] at c1
  have hk:=GC c1
  obtain ⟨b1,b2,b3⟩:=jq hm hk
  refine bO (fun ds=>∃ i : Nat,ds=[.i i]∧i≤(aq m).length∧∀ j,j < i→((aq m).getD j default).k≠k) (fun ds=>(aq m).length - (ds.getD 0 .u).int.toNat) ⟨0,rfl,by omega,by omega⟩ ?_
  rintro ds - ⟨i,rfl,hi,ht⟩
  refine G0 (fun hlt=>?_) (fun hge=>?_)
  ·simp only [nrm,xdn,reduceIte,Nat.reduceLT,Nat.reduceSub,Nat.reduceAdd,iT] at hlt
   have hf:=He (l:=aq m) (i:=i) (by omega)
   have r2 : ((eM (aq m)).rows.getD i []).getD 2 .u=.i ((aq m).getD i default).slot:=Kb (by omega)
   refine ag (by simp only [nrm,xdn,reduceIte,Nat.reduceLT,Nat.reduceSub,Nat.reduceAdd];omega) (G0 (fun c2=>?_) (fun c2=>?_))
   ·simp only [nrm,xdn,reduceIte,Nat.reduceLT,Nat.reduceSub,Nat.reduceAdd,Int.toNat_natCast,Hb,Ha,Bool.and_eq_true,and_true] at c2
    have e:=HW c2.1 c2.2
    generalize (aq m).getD i default=f at *
    subst e
    have hW:=Hy hC hf hk
    obtain ⟨g1,g2,g3,_,_,_,g7⟩:=jj hC hf
    rw [hW]
    have hbn : (((bk m f.k).toNat : Nat) : Int)=bk m f.k:=by omega
    have hCh:=hC.ch (b:=(bk m f.k).toNat) (by omega)
    obtain ⟨q1,q2⟩:=H8 hCh.of
    rw [hbn] at q1
    have hll : (chL m (bk m f.k).toNat).length≤m.slots.length:=(oL hm _).1
    have hlm : ∀ a∈chL m (bk m f.k).toNat,0≤a∧a < m.slots.length:=fun a ha=>cW hC ha
    refine Fk (by simp only [nrm,xdn,reduceIte,Nat.reduceLT,Nat.reduceSub,Nat.reduceAdd];omega) ?_
    refine ai d88 [.i (bk m f.k)] rfl ?_ (by simp only [nrm,xdn,reduceIte,Nat.reduceLT,Nat.reduceSub,Nat.reduceAdd,aw,fn88];rfl) ?_
    ·simp only [nrm,xdn,reduceIte,Nat.reduceLT,Nat.reduceSub,Nat.reduceAdd,aw]
     have hh : d88.pre [.i f.k.a,.i f.k.b,.i m.heads.length]:=⟨hk,(by show (1 : Int)≤(m.heads.length : Int);omega),(by show (m.heads.length : Int)≤4;omega)⟩
     exact hh
    refine ai d77 [af (chL m (bk m f.k).toNat),.b true] rfl ?_ (by simp only [nrm,xdn,reduceIte,Nat.reduceLT,Nat.reduceSub,Nat.reduceAdd,fn77,q1]) ?_
    ·simp only [nrm,xdn,reduceIte,Nat.reduceLT,Nat.reduceSub,Nat.reduceAdd]
     exact pre77 hm b1 b2
    generalize chL m (bk m f.k).toNat=l at *
    generalize bk m f.k=b at *
    refine bO (fun ds=>∃ (j : Nat) (p : Int),ds=[.i p,.i j]∧j≤l.length∧0≤p∧p≤m.slots.length∧gk f.slot l 0=gk f.slot (l.drop j) p∧f.slot∈l.drop j) (fun ds=>l.length - (ds.getD 1 .u).int.toNat) ⟨0,0,rfl,by omega,by omega,by omega,rfl,g7⟩ ?_
    rintro ds - ⟨j,p,rfl,hj,hp0,hp1,hpv,hmem⟩
    refine G0 (fun hlt'=>?_) (fun hge'=>?_)
    ·simp only [nrm,xdn,reduceIte,Nat.reduceLT,Nat.reduceSub,Nat.reduceAdd,aw] at hlt'
     have ha:=hlm (l.getD j 0) (pA (by omega))
     have hraw : ((af l).rows.getD j []).getD 0 .u=.i (l.getD j 0):=iK (by omega)
     rw [Ii (by omega)] at hpv hmem
     generalize hag : l.getD j 0=a at *
     refine ag (by simp only [nrm,xdn,reduceIte,Nat.reduceLT,Nat.reduceSub,Nat.reduceAdd];omega) (G0 (fun c3=>?_) (fun c3=>?_))
     ·simp only [nrm,xdn,reduceIte,Nat.reduceLT,Nat.reduceSub,Nat.reduceAdd,Int.toNat_natCast,hraw,r2] at c3
      rw [gk,if_pos c3] at hpv
      rw [hpv]
      refine ai d62 m.cds rfl trivial (by simp only [nrm,xdn,reduceIte,Nat.reduceLT,Nat.reduceSub,Nat.reduceAdd,fn62]) ?_
      refine ai d89 (cut m p f.slot b).cds rfl ?_ (by simp only [nrm,xdn,reduceIte,Nat.reduceLT,Nat.reduceSub,Nat.reduceAdd,Int.toNat_natCast,r2,Mem.cds,lca,fn89]) ?_
      ·simp only [nrm,xdn,reduceIte,Nat.reduceLT,Nat.reduceSub,Nat.reduceAdd,Int.toNat_natCast,r2,Mem.cds,lca]
       exact pre89 hp0 hp1 g1 g2 b1 b2
      generalize cut m p f.slot b=y at *
      refine Bf (by simp only [nrm,xdn,reduceIte,Nat.reduceLT,Nat.reduceSub,Nat.reduceAdd,Mem.cds,lca]) ?_
      refine Bf (by simp only [nrm,xdn,reduceIte,Nat.reduceLT,Nat.reduceSub,Nat.reduceAdd,Int.toNat_natCast,r2,Mem.cds,lca]) ?_
      refine ai d60 [.b true] rfl trivial (by simp only [nrm,xdn,reduceIte,Nat.reduceLT,Nat.reduceSub,Nat.reduceAdd,Mem.cds,lca,H0]) ?_
      refine aj ?_
      simp only [nrm,xdn,reduceIte,Nat.reduceLT,Nat.reduceSub,Nat.reduceAdd]
     ·simp only [nrm,xdn,reduceIte,Nat.reduceLT,Nat.reduceSub,Nat.reduceAdd,Int.toNat_natCast,hraw,r2] at c3
      rw [gk,if_neg c3] at hpv
      refine G1 (by simp only [nrm,xdn,reduceIte,Nat.reduceLT,Nat.reduceSub,Nat.reduceAdd,Int.toNat_natCast,hraw];omega) (G1 (by simp only [nrm,xdn,reduceIte,Nat.reduceLT,Nat.reduceSub,Nat.reduceAdd];omega) (aV ⟨⟨j + 1,a + 1,?_,by omega,by omega,by omega,hpv,?_⟩,?_⟩))
      ·simp only [nrm,xdn,reduceIte,Nat.reduceLT,Nat.reduceSub,Nat.reduceAdd,Int.toNat_natCast,hraw];rfl
      ·exact (List.mem_cons.1 hmem).resolve_left (fun e=>c3 e.symm)
      ·simp only [nrm,xdn,reduceIte,Nat.reduceLT,Nat.reduceSub,Nat.reduceAdd];omega
    ·simp only [nrm,xdn,reduceIte,Nat.reduceLT,Nat.reduceSub,Nat.reduceAdd,aw] at hge'
     rw [List.drop_of_length_le (by omega)] at hmem
     cases hmem
   ·simp only [nrm,xdn,reduceIte,Nat.reduceLT,Nat.reduceSub,Nat.reduceAdd,Int.toNat_natCast,Hb,Ha,Bool.and_eq_false_iff,or_false,Bool.true_eq_false] at c2
    have hfl:=pC hm
    refine G1 (by simp only [nrm,xdn,reduceIte,Nat.reduceLT,Nat.reduceSub,Nat.reduceAdd];omega) (aV ⟨⟨i + 1,?_,by omega,fun j hj=>?_⟩,?_⟩)
    ·simp only [nrm,xdn,reduceIte,Nat.reduceLT,Nat.reduceSub,Nat.reduceAdd];rfl
    ·rcases Nat.lt_or_ge j i with hl | hg
     ·exact ht j hl
     ·have : j=i:=by omega
      subst this
      intro e
      rw [e] at c2
      rcases c2 with c2 | c2 <;> exact c2 rfl
    ·simp only [nrm,xdn,reduceIte,Nat.reduceLT,Nat.reduceSub,Nat.reduceAdd];omega
  ·simp only [nrm,xdn,reduceIte,Nat.reduceLT,Nat.reduceSub,Nat.reduceAdd,iT] at hge
   have hW:=HM hC hk fun j hj=>ht j (by omega)
   rw [hW]
   refine Bf (by simp only [nrm,xdn,reduceIte,Nat.reduceLT,Nat.reduceSub,Nat.reduceAdd,Mem.cds,lca]) ?_
   refine Bf (by simp only [nrm,xdn,reduceIte,Nat.reduceLT,Nat.reduceSub,Nat.reduceAdd,Mem.cds,lca]) ?_
   refine ai d60 [.b true] rfl trivial (by simp only [nrm,xdn,reduceIte,Nat.reduceLT,Nat.reduceSub,Nat.reduceAdd,Mem.cds,Mem.none,G5,G7,lca,Hs]) ?_
   refine aj ?_
   simp only [nrm,xdn,reduceIte,Nat.reduceLT,Nat.reduceSub,Nat.reduceAdd]
 simp only [nrm,xdn,reduceIte,Nat.reduceLT,Nat.reduceSub,Nat.reduceAdd,cX,hm0] at a3
 have hka:=(hm.sl (i:=x.toNat) (by omega)).k
 have k1 : ((au m.slots).rows.getD x.toNat []).getD 1 .u=.i (msl m x.toNat).k.a:=qc (by omega)
 have k2 : ((au m.slots).rows.getD x.toNat []).getD 2 .u=.i (msl m x.toNat).k.b:=qb (by omega)
 obtain ⟨d1,d2,d3⟩:=jq hm hka
 refine bO (fun ds=>∃ i : Nat,ds=[.i i]∧i≤(aq m).length∧∀ j,j < i→((aq m).getD j default).k≠kys m x) (fun ds=>(aq m).length - (ds.getD 0 .u).int.toNat) ⟨0,rfl,by omega,by omega⟩ ?_
 rintro ds - ⟨i0,rfl,hi0,ht0⟩
 refine G0 (fun hlt0=>?_) (fun hge0=>?_)
 ·simp only [nrm,xdn,reduceIte,Nat.reduceLT,Nat.reduceSub,Nat.reduceAdd,iT] at hlt0
  have hf0:=He (l:=aq m) (i:=i0) (by omega)
  refine ag (by simp only [nrm,xdn,reduceIte,Nat.reduceLT,Nat.reduceSub,Nat.reduceAdd];omega) (G0 (fun c0=>?_) (fun c0=>?_))
  ·simp only [nrm,xdn,reduceIte,Nat.reduceLT,Nat.reduceSub,Nat.reduceAdd,Int.toNat_natCast,Hb,Ha,cG,cF,hm0,Bool.and_eq_true,and_true] at c0
   have hL:=KZ hC (by omega) (by omega) a3 hf0 (HW c0.1 c0.2)
   rw [hL]
   refine Fk (by simp only [nrm,xdn,reduceIte,Nat.reduceLT,Nat.reduceSub,Nat.reduceAdd,Mem.cds,lca,decide_true,Bool.not_true,not_true_eq_false,decide_false,beq_self_eq_true]) ?_
   refine ai d60 [.b true] rfl trivial (by simp only [nrm,xdn,reduceIte,Nat.reduceLT,Nat.reduceSub,Nat.reduceAdd,Mem.cds,Mem.none,G5,G7,lca,Hs]) ?_
   refine Fk (by simp only [nrm,xdn,reduceIte,Nat.reduceLT,Nat.reduceSub,Nat.reduceAdd,Mem.cds,lca,decide_true,Bool.not_true,not_true_eq_false,decide_false,beq_self_eq_true]) ?_
   refine ai d65 [.b (isKey k)] rfl trivial (by simp only [nrm,xdn,reduceIte,Nat.reduceLT,Nat.reduceSub,Nat.reduceAdd,fn65]) (G0 (fun c1=>?_) (fun c1=>?_))
   ·simp only [nrm,xdn,reduceIte,Nat.reduceLT,Nat.reduceSub,Nat.reduceAdd,Bool.not_eq_true'] at c1
    have hb:=HL (n:=m.heads.length) (I0 c1)
    have hW : EA m k=(Mem.none,0,3):=by unfold EA;rw [if_neg (by omega),hb,if_pos (by decide)]
    rw [hW]
    refine Bf (by simp only [nrm,xdn,reduceIte,Nat.reduceLT,Nat.reduceSub,Nat.reduceAdd,Mem.cds,lca]) ?_
    refine Bf (by simp only [nrm,xdn,reduceIte,Nat.reduceLT,Nat.reduceSub,Nat.reduceAdd,Mem.cds,lca]) ?_
    refine ai d60 [.b true] rfl trivial (by simp only [nrm,xdn,reduceIte,Nat.reduceLT,Nat.reduceSub,Nat.reduceAdd,Mem.cds,Mem.none,G5,G7,lca,Hs]) ?_
    refine aj ?_
    simp only [nrm,xdn,reduceIte,Nat.reduceLT,Nat.reduceSub,Nat.reduceAdd]
   simp only [nrm,xdn,reduceIte,Nat.reduceLT,Nat.reduceSub,Nat.reduceAdd,Bool.not_eq_false'] at c1
   have hk:=GC c1
   obtain ⟨b1,b2,b3⟩:=jq hm hk
   refine bO (fun ds=>∃ i : Nat,ds=[.i i]∧i≤(aq m).length∧∀ j,j < i→((aq m).getD j default).k≠k) (fun ds=>(aq m).length - (ds.getD 0 .u).int.toNat) ⟨0,rfl,by omega,by omega⟩ ?_
   rintro ds - ⟨i,rfl,hi,ht⟩
   refine G0 (fun hlt=>?_) (fun hge=>?_)
   ·simp only [nrm,xdn,reduceIte,Nat.reduceLT,Nat.reduceSub,Nat.reduceAdd,iT] at hlt
    have hf:=He (l:=aq m) (i:=i) (by omega)
    have r2 : ((eM (aq m)).rows.getD i []).getD 2 .u=.i ((aq m).getD i default).slot:=Kb (by omega)
    refine ag (by simp only [nrm,xdn,reduceIte,Nat.reduceLT,Nat.reduceSub,Nat.reduceAdd];omega) (G0 (fun c2=>?_) (fun c2=>?_))
    ·simp only [nrm,xdn,reduceIte,Nat.reduceLT,Nat.reduceSub,Nat.reduceAdd,Int.toNat_natCast,Hb,Ha,Bool.and_eq_true,and_true] at c2
     have e:=HW c2.1 c2.2
     generalize (aq m).getD i default=f at *
     subst e
     have hW:=Hy hC hf hk
     obtain ⟨g1,g2,g3,_,_,_,g7⟩:=jj hC hf
     rw [hW]
     have hbn : (((bk m f.k).toNat : Nat) : Int)=bk m f.k:=by omega
     have hCh:=hC.ch (b:=(bk m f.k).toNat) (by omega)
     obtain ⟨q1,q2⟩:=H8 hCh.of
     rw [hbn] at q1
     have hll : (chL m (bk m f.k).toNat).length≤m.slots.length:=(oL hm _).1
     have hlm : ∀ a∈chL m (bk m f.k).toNat,0≤a∧a < m.slots.length:=fun a ha=>cW hC ha
     refine Fk (by simp only [nrm,xdn,reduceIte,Nat.reduceLT,Nat.reduceSub,Nat.reduceAdd];omega) ?_
     refine ai d88 [.i (bk m f.k)] rfl ?_ (by simp only [nrm,xdn,reduceIte,Nat.reduceLT,Nat.reduceSub,Nat.reduceAdd,aw,fn88];rfl) ?_
     ·simp only [nrm,xdn,reduceIte,Nat.reduceLT,Nat.reduceSub,Nat.reduceAdd,aw]
      have hh : d88.pre [.i f.k.a,.i f.k.b,.i m.heads.length]:=⟨hk,(by show (1 : Int)≤(m.heads.length : Int);omega),(by show (m.heads.length : Int)≤4;omega)⟩
      exact hh
     refine ai d77 [af (chL m (bk m f.k).toNat),.b true] rfl ?_ (by simp only [nrm,xdn,reduceIte,Nat.reduceLT,Nat.reduceSub,Nat.reduceAdd,fn77,q1]) ?_
     ·simp only [nrm,xdn,reduceIte,Nat.reduceLT,Nat.reduceSub,Nat.reduceAdd]
      exact pre77 hm b1 b2
     generalize chL m (bk m f.k).toNat=l at *
     generalize bk m f.k=b at *
     refine bO (fun ds=>∃ (j : Nat) (p : Int),ds=[.i p,.i j]∧j≤l.length∧0≤p∧p≤m.slots.length∧gk f.slot l 0=gk f.slot (l.drop j) p∧f.slot∈l.drop j) (fun ds=>l.length - (ds.getD 1 .u).int.toNat) ⟨0,0,rfl,by omega,by omega,by omega,rfl,g7⟩ ?_
     rintro ds - ⟨j,p,rfl,hj,hp0,hp1,hpv,hmem⟩
     refine G0 (fun hlt'=>?_) (fun hge'=>?_)
     ·simp only [nrm,xdn,reduceIte,Nat.reduceLT,Nat.reduceSub,Nat.reduceAdd,aw] at hlt'
      have ha:=hlm (l.getD j 0) (pA (by omega))
      have hraw : ((af l).rows.getD j []).getD 0 .u=.i (l.getD j 0):=iK (by omega)
      rw [Ii (by omega)] at hpv hmem
      generalize hag : l.getD j 0=a at *
      refine ag (by simp only [nrm,xdn,reduceIte,Nat.reduceLT,Nat.reduceSub,Nat.reduceAdd];omega) (G0 (fun c3=>?_) (fun c3=>?_))
      ·simp only [nrm,xdn,reduceIte,Nat.reduceLT,Nat.reduceSub,Nat.reduceAdd,Int.toNat_natCast,hraw,r2] at c3
       rw [gk,if_pos c3] at hpv
       rw [hpv]
       refine ai d62 m.cds rfl trivial (by simp only [nrm,xdn,reduceIte,Nat.reduceLT,Nat.reduceSub,Nat.reduceAdd,fn62]) ?_
       refine ai d89 (cut m p f.slot b).cds rfl ?_ (by simp only [nrm,xdn,reduceIte,Nat.reduceLT,Nat.reduceSub,Nat.reduceAdd,Int.toNat_natCast,r2,Mem.cds,lca,fn89]) ?_
       ·simp only [nrm,xdn,reduceIte,Nat.reduceLT,Nat.reduceSub,Nat.reduceAdd,Int.toNat_natCast,r2,Mem.cds,lca]
        exact pre89 hp0 hp1 g1 g2 b1 b2
       generalize cut m p f.slot b=y at *
       refine Bf (by simp only [nrm,xdn,reduceIte,Nat.reduceLT,Nat.reduceSub,Nat.reduceAdd,Mem.cds,lca]) ?_
       refine Bf (by simp only [nrm,xdn,reduceIte,Nat.reduceLT,Nat.reduceSub,Nat.reduceAdd,Int.toNat_natCast,r2,Mem.cds,lca]) ?_
       refine ai d60 [.b true] rfl trivial (by simp only [nrm,xdn,reduceIte,Nat.reduceLT,Nat.reduceSub,Nat.reduceAdd,Mem.cds,lca,H0]) ?_
       refine aj ?_
       simp only [nrm,xdn,reduceIte,Nat.reduceLT,Nat.reduceSub,Nat.reduceAdd]
      ·simp only [nrm,xdn,reduceIte,Nat.reduceLT,Nat.reduceSub,Nat.reduceAdd,Int.toNat_natCast,hraw,r2] at c3
       rw [gk,if_neg c3] at hpv
       refine G1 (by simp only [nrm,xdn,reduceIte,Nat.reduceLT,Nat.reduceSub,Nat.reduceAdd,Int.toNat_natCast,hraw];omega) (G1 (by simp only [nrm,xdn,reduceIte,Nat.reduceLT,Nat.reduceSub,Nat.reduceAdd];omega) (aV ⟨⟨j + 1,a + 1,?_,by omega,by omega,by omega,hpv,?_⟩,?_⟩))
       ·simp only [nrm,xdn,reduceIte,Nat.reduceLT,Nat.reduceSub,Nat.reduceAdd,Int.toNat_natCast,hraw];rfl
       ·exact (List.mem_cons.1 hmem).resolve_left (fun e=>c3 e.symm)
       ·simp only [nrm,xdn,reduceIte,Nat.reduceLT,Nat.reduceSub,Nat.reduceAdd];omega
     ·simp only [nrm,xdn,reduceIte,Nat.reduceLT,Nat.reduceSub,Nat.reduceAdd,aw] at hge'
      rw [List.drop_of_length_le (by omega)] at hmem
      cases hmem
    ·simp only [nrm,xdn,reduceIte,Nat.reduceLT,Nat.reduceSub,Nat.reduceAdd,Int.toNat_natCast,Hb,Ha,Bool.and_eq_false_iff,or_false,Bool.true_eq_false] at c2
     have hfl:=pC hm
     refine G1 (by simp only [nrm,xdn,reduceIte,Nat.reduceLT,Nat.reduceSub,Nat.reduceAdd];omega) (aV ⟨⟨i + 1,?_,by omega,fun j hj=>?_⟩,?_⟩)
     ·simp only [nrm,xdn,reduceIte,Nat.reduceLT,Nat.reduceSub,Nat.reduceAdd];rfl
     ·rcases Nat.lt_or_ge j i with hl | hg
      ·exact ht j hl
      ·have : j=i:=by omega
       subst this
       intro e
       rw [e] at c2
       rcases c2 with c2 | c2 <;> exact c2 rfl
     ·simp only [nrm,xdn,reduceIte,Nat.reduceLT,Nat.reduceSub,Nat.reduceAdd];omega
   ·simp only [nrm,xdn,reduceIte,Nat.reduceLT,Nat.reduceSub,Nat.reduceAdd,iT] at hge
    have hW:=HM hC hk fun j hj=>ht j (by omega)
    rw [hW]
    refine Bf (by simp only [nrm,xdn,reduceIte,Nat.reduceLT,Nat.reduceSub,Nat.reduceAdd,Mem.cds,lca]) ?_
    refine Bf (by simp only [nrm,xdn,reduceIte,Nat.reduceLT,Nat.reduceSub,Nat.reduceAdd,Mem.cds,lca]) ?_
    refine ai d60 [.b true] rfl trivial (by simp only [nrm,xdn,reduceIte,Nat.reduceLT,Nat.reduceSub,Nat.reduceAdd,Mem.cds,Mem.none,G5,G7,lca,Hs]) ?_
    refine aj ?_
    simp only [nrm,xdn,reduceIte,Nat.reduceLT,Nat.reduceSub,Nat.reduceAdd]
  ·simp only [nrm,xdn,reduceIte,Nat.reduceLT,Nat.reduceSub,Nat.reduceAdd,Int.toNat_natCast,Hb,Ha,cG,cF,hm0,Bool.and_eq_false_iff,or_false,Bool.true_eq_false] at c0
   have hfl:=pC hm
   refine G1 (by simp only [nrm,xdn,reduceIte,Nat.reduceLT,Nat.reduceSub,Nat.reduceAdd];omega) (aV ⟨⟨i0 + 1,?_,by omega,fun j hj=>?_⟩,?_⟩)
   ·simp only [nrm,xdn,reduceIte,Nat.reduceLT,Nat.reduceSub,Nat.reduceAdd];rfl
   ·rcases Nat.lt_or_ge j i0 with hl | hg
    ·exact ht0 j hl
    ·have : j=i0:=by omega
     subst this
     intro e
     rw [e] at c0
     rcases c0 with c0 | c0 <;> exact c0 rfl
   ·simp only [nrm,xdn,reduceIte,Nat.reduceLT,Nat.reduceSub,Nat.reduceAdd];omega
 ·simp only [nrm,xdn,reduceIte,Nat.reduceLT,Nat.reduceSub,Nat.reduceAdd,iT] at hge0
  have hL:=Kl hC (by omega) (by omega) a3 fun j hj=>ht0 j (by omega)
  rw [hL]
  refine ai d62 m.cds rfl trivial (by simp only [nrm,xdn,reduceIte,Nat.reduceLT,Nat.reduceSub,Nat.reduceAdd,fn62]) ?_
  refine ai d88 [.i (bk m (kys m x))] rfl ?_ (by simp only [nrm,xdn,reduceIte,Nat.reduceLT,Nat.reduceSub,Nat.reduceAdd,k1,k2,aw,fn88];rfl) ?_
  ·simp only [nrm,xdn,reduceIte,Nat.reduceLT,Nat.reduceSub,Nat.reduceAdd,k1,k2,aw]
   have hh : d88.pre [.i (msl m x.toNat).k.a,.i (msl m x.toNat).k.b,.i m.heads.length]:=⟨hka,(by show (1 : Int)≤(m.heads.length : Int);omega),(by show (m.heads.length : Int)≤4;omega)⟩
   exact hh
  refine ai d87 (link m x (bk m (kys m x))).cds rfl ?_ (by simp only [nrm,xdn,reduceIte,Nat.reduceLT,Nat.reduceSub,Nat.reduceAdd,Mem.cds,lca,fn87]) ?_
  ·simp only [nrm,xdn,reduceIte,Nat.reduceLT,Nat.reduceSub,Nat.reduceAdd,Mem.cds,lca]
   exact pre87 (by omega) (by omega) d1 d2
  generalize link m x (bk m (kys m x))=q
  refine Fk (by simp only [nrm,xdn,reduceIte,Nat.reduceLT,Nat.reduceSub,Nat.reduceAdd,Mem.cds,lca,decide_true,Bool.not_true,not_true_eq_false,decide_false,beq_self_eq_true]) ?_
  refine ai d60 [.b true] rfl trivial (by simp only [nrm,xdn,reduceIte,Nat.reduceLT,Nat.reduceSub,Nat.reduceAdd,Mem.cds,lca,H0]) ?_
  refine Fk (by simp only [nrm,xdn,reduceIte,Nat.reduceLT,Nat.reduceSub,Nat.reduceAdd,Mem.cds,lca,decide_true,Bool.not_true,not_true_eq_false,decide_false,beq_self_eq_true]) ?_
  refine ai d65 [.b (isKey k)] rfl trivial (by simp only [nrm,xdn,reduceIte,Nat.reduceLT,Nat.reduceSub,Nat.reduceAdd,fn65]) (G0 (fun c1=>?_) (fun c1=>?_))
  ·simp only [nrm,xdn,reduceIte,Nat.reduceLT,Nat.reduceSub,Nat.reduceAdd,Bool.not_eq_true'] at c1
   have hb:=HL (n:=m.heads.length) (I0 c1)
   have hW : EA m k=(Mem.none,0,3):=by unfold EA;rw [if_neg (by omega),hb,if_pos (by decide)]
   rw [hW]
   refine Bf (by simp only [nrm,xdn,reduceIte,Nat.reduceLT,Nat.reduceSub,Nat.reduceAdd,Mem.cds,lca]) ?_
   refine Bf (by simp only [nrm,xdn,reduceIte,Nat.reduceLT,Nat.reduceSub,Nat.reduceAdd,Mem.cds,lca]) ?_
   refine ai d60 [.b true] rfl trivial (by simp only [nrm,xdn,reduceIte,Nat.reduceLT,Nat.reduceSub,Nat.reduceAdd,Mem.cds,Mem.none,G5,G7,lca,Hs]) ?_
   refine aj ?_
   simp only [nrm,xdn,reduceIte,Nat.reduceLT,Nat.reduceSub,Nat.reduceAdd]
  simp only [nrm,xdn,reduceIte,Nat.reduceLT,Nat.reduceSub,Nat.reduceAdd,Bool.not_eq_false'] at c1
  have hk:=GC c1
  obtain ⟨b1,b2,b3⟩:=jq hm hk
  refine bO (fun ds=>∃ i : Nat,ds=[.i i]∧i≤(aq m).length∧∀ j,j < i→((aq m).getD j default).k≠k) (fun ds=>(aq m).length - (ds.getD 0 .u).int.toNat) ⟨0,rfl,by omega,by omega⟩ ?_
  rintro ds - ⟨i,rfl,hi,ht⟩
  refine G0 (fun hlt=>?_) (fun hge=>?_)
  ·simp only [nrm,xdn,reduceIte,Nat.reduceLT,Nat.reduceSub,Nat.reduceAdd,iT] at hlt
   have hf:=He (l:=aq m) (i:=i) (by omega)
   have r2 : ((eM (aq m)).rows.getD i []).getD 2 .u=.i ((aq m).getD i default).slot:=Kb (by omega)
   refine ag (by simp only [nrm,xdn,reduceIte,Nat.reduceLT,Nat.reduceSub,Nat.reduceAdd];omega) (G0 (fun c2=>?_) (fun c2=>?_))
   ·simp only [nrm,xdn,reduceIte,Nat.reduceLT,Nat.reduceSub,Nat.reduceAdd,Int.toNat_natCast,Hb,Ha,Bool.and_eq_true,and_true] at c2
    have e:=HW c2.1 c2.2
    generalize (aq m).getD i default=f at *
    subst e
    have hW:=Hy hC hf hk
    obtain ⟨g1,g2,g3,_,_,_,g7⟩:=jj hC hf
    rw [hW]
    have hbn : (((bk m f.k).toNat : Nat) : Int)=bk m f.k:=by omega
    have hCh:=hC.ch (b:=(bk m f.k).toNat) (by omega)
    obtain ⟨q1,q2⟩:=H8 hCh.of
    rw [hbn] at q1
    have hll : (chL m (bk m f.k).toNat).length≤m.slots.length:=(oL hm _).1
    have hlm : ∀ a∈chL m (bk m f.k).toNat,0≤a∧a < m.slots.length:=fun a ha=>cW hC ha
    refine Fk (by simp only [nrm,xdn,reduceIte,Nat.reduceLT,Nat.reduceSub,Nat.reduceAdd];omega) ?_
    refine ai d88 [.i (bk m f.k)] rfl ?_ (by simp only [nrm,xdn,reduceIte,Nat.reduceLT,Nat.reduceSub,Nat.reduceAdd,aw,fn88];rfl) ?_
    ·simp only [nrm,xdn,reduceIte,Nat.reduceLT,Nat.reduceSub,Nat.reduceAdd,aw]
     have hh : d88.pre [.i f.k.a,.i f.k.b,.i m.heads.length]:=⟨hk,(by show (1 : Int)≤(m.heads.length : Int);omega),(by show (m.heads.length : Int)≤4;omega)⟩
     exact hh
    refine ai d77 [af (chL m (bk m f.k).toNat),.b true] rfl ?_ (by simp only [nrm,xdn,reduceIte,Nat.reduceLT,Nat.reduceSub,Nat.reduceAdd,fn77,q1]) ?_
    ·simp only [nrm,xdn,reduceIte,Nat.reduceLT,Nat.reduceSub,Nat.reduceAdd]
     exact pre77 hm b1 b2
    generalize chL m (bk m f.k).toNat=l at *
    generalize bk m f.k=b at *
    refine bO (fun ds=>∃ (j : Nat) (p : Int),ds=[.i p,.i j]∧j≤l.length∧0≤p∧p≤m.slots.length∧gk f.slot l 0=gk f.slot (l.drop j) p∧f.slot∈l.drop j) (fun ds=>l.length - (ds.getD 1 .u).int.toNat) ⟨0,0,rfl,by omega,by omega,by omega,rfl,g7⟩ ?_
    rintro ds - ⟨j,p,rfl,hj,hp0,hp1,hpv,hmem⟩
    refine G0 (fun hlt'=>?_) (fun hge'=>?_)
    ·simp only [nrm,xdn,reduceIte,Nat.reduceLT,Nat.reduceSub,Nat.reduceAdd,aw] at hlt'
     have ha:=hlm (l.getD j 0) (pA (by omega))
     have hraw : ((af l).rows.getD j []).getD 0 .u=.i (l.getD j 0):=iK (by omega)
     rw [Ii (by omega)] at hpv hmem
     generalize hag : l.getD j 0=a at *
     refine ag (by simp only [nrm,xdn,reduceIte,Nat.reduceLT,Nat.reduceSub,Nat.reduceAdd];omega) (G0 (fun c3=>?_) (fun c3=>?_))
     ·simp only [nrm,xdn,reduceIte,Nat.reduceLT,Nat.reduceSub,Nat.reduceAdd,Int.toNat_natCast,hraw,r2] at c3
      rw [gk,if_pos c3] at hpv
      rw [hpv]
      refine ai d62 m.cds rfl trivial (by simp only [nrm,xdn,reduceIte,Nat.reduceLT,Nat.reduceSub,Nat.reduceAdd,fn62]) ?_
      refine ai d89 (cut m p f.slot b).cds rfl ?_ (by simp only [nrm,xdn,reduceIte,Nat.reduceLT,Nat.reduceSub,Nat.reduceAdd,Int.toNat_natCast,r2,Mem.cds,lca,fn89]) ?_
      ·simp only [nrm,xdn,reduceIte,Nat.reduceLT,Nat.reduceSub,Nat.reduceAdd,Int.toNat_natCast,r2,Mem.cds,lca]
       exact pre89 hp0 hp1 g1 g2 b1 b2
      generalize cut m p f.slot b=y at *
      refine Bf (by simp only [nrm,xdn,reduceIte,Nat.reduceLT,Nat.reduceSub,Nat.reduceAdd,Mem.cds,lca]) ?_
      refine Bf (by simp only [nrm,xdn,reduceIte,Nat.reduceLT,Nat.reduceSub,Nat.reduceAdd,Int.toNat_natCast,r2,Mem.cds,lca]) ?_
      refine ai d60 [.b true] rfl trivial (by simp only [nrm,xdn,reduceIte,Nat.reduceLT,Nat.reduceSub,Nat.reduceAdd,Mem.cds,lca,H0]) ?_
      refine aj ?_
      simp only [nrm,xdn,reduceIte,Nat.reduceLT,Nat.reduceSub,Nat.reduceAdd]
     ·simp only [nrm,xdn,reduceIte,Nat.reduceLT,Nat.reduceSub,Nat.reduceAdd,Int.toNat_natCast,hraw,r2] at c3
      rw [gk,if_neg c3] at hpv
      refine G1 (by simp only [nrm,xdn,reduceIte,Nat.reduceLT,Nat.reduceSub,Nat.reduceAdd,Int.toNat_natCast,hraw];omega) (G1 (by simp only [nrm,xdn,reduceIte,Nat.reduceLT,Nat.reduceSub,Nat.reduceAdd];omega) (aV ⟨⟨j + 1,a + 1,?_,by omega,by omega,by omega,hpv,?_⟩,?_⟩))
      ·simp only [nrm,xdn,reduceIte,Nat.reduceLT,Nat.reduceSub,Nat.reduceAdd,Int.toNat_natCast,hraw];rfl
      ·exact (List.mem_cons.1 hmem).resolve_left (fun e=>c3 e.symm)
      ·simp only [nrm,xdn,reduceIte,Nat.reduceLT,Nat.reduceSub,Nat.reduceAdd];omega
    ·simp only [nrm,xdn,reduceIte,Nat.reduceLT,Nat.reduceSub,Nat.reduceAdd,aw] at hge'
     rw [List.drop_of_length_le (by omega)] at hmem
     cases hmem
   ·simp only [nrm,xdn,reduceIte,Nat.reduceLT,Nat.reduceSub,Nat.reduceAdd,Int.toNat_natCast,Hb,Ha,Bool.and_eq_false_iff,or_false,Bool.true_eq_false] at c2
    have hfl:=pC hm
    refine G1 (by simp only [nrm,xdn,reduceIte,Nat.reduceLT,Nat.reduceSub,Nat.reduceAdd];omega) (aV ⟨⟨i + 1,?_,by omega,fun j hj=>?_⟩,?_⟩)
    ·simp only [nrm,xdn,reduceIte,Nat.reduceLT,Nat.reduceSub,Nat.reduceAdd];rfl
    ·rcases Nat.lt_or_ge j i with hl | hg
     ·exact ht j hl
     ·have : j=i:=by omega
      subst this
      intro e
      rw [e] at c2
      rcases c2 with c2 | c2 <;> exact c2 rfl
    ·simp only [nrm,xdn,reduceIte,Nat.reduceLT,Nat.reduceSub,Nat.reduceAdd];omega
  ·simp only [nrm,xdn,reduceIte,Nat.reduceLT,Nat.reduceSub,Nat.reduceAdd,iT] at hge
   have hW:=HM hC hk fun j hj=>ht j (by omega)
   rw [hW]
   refine Bf (by simp only [nrm,xdn,reduceIte,Nat.reduceLT,Nat.reduceSub,Nat.reduceAdd,Mem.cds,lca]) ?_
   refine Bf (by simp only [nrm,xdn,reduceIte,Nat.reduceLT,Nat.reduceSub,Nat.reduceAdd,Mem.cds,lca]) ?_
   refine ai d60 [.b true] rfl trivial (by simp only [nrm,xdn,reduceIte,Nat.reduceLT,Nat.reduceSub,Nat.reduceAdd,Mem.cds,Mem.none,G5,G7,lca,Hs]) ?_
   refine aj ?_
   simp only [nrm,xdn,reduceIte,Nat.reduceLT,Nat.reduceSub,Nat.reduceAdd]
end Go.Proofs.Ytpmamacjepcdmaa
