import Derived.Test.YtpmamacjepcdmaaCRef3
import Derived.Test.YtpmamacjepcdmaaCMemTells
namespace Go.Proofs.Ytpmamacjepcdmaa
open Go Go.Sy Go.RowKit
set_option linter.unusedSimpArgs false
set_option linter.unusedVariables false
def s8 : Sig:=⟨[.agg [.fz kS,.fz kI,.fz kI,.fz kI,.int .i64],.agg [.int .i64,.int .i64],.one (.int .i64),.one (.int .i64)],[.one (.bool)]⟩
def d8 : DC:=⟨s8,fun _=>True,fun _=>[.b true]⟩
def l8 : List (Nat × Ct):=[(62,d62.ct),(54,d54.ct),(63,d63.ct),(64,d64.ct),(58,d58.ct),(50,d50.ct),(60,d60.ct),(65,d65.ct),(67,d67.ct),(68,d68.ct),(66,d66.ct)]
def z8 : Cx:={ T:=ttA,C:=sigs l8,F:=[],hints:=[],sig:=s8}
def t8 : Tree :=
 (.call 62 [.var 0,.var 1,.var 2,.var 3,.var 4] 9
 (.call 54 [.var 9,.var 10,.var 11,.var 12,.var 13,.var 5,.var 6,.var 7] 14
 (.call 63 [.var 9,.var 10,.var 11,.var 12,.var 13,.var 8] 21
 (.call 64 [.var 9,.var 10,.var 11,.var 12,.var 13,.var 8] 27
 (.call 58 [.var 0,.var 1,.var 2,.var 3,.var 4] 33
 (.call 50 [] 34
 (.ite (.not (.var 34))
 (.ret [.bool false])
 (.call 60 [.var 9,.var 10,.var 11,.var 12,.var 13,.var 0,.var 1,.var 2,.var 3,.var 4] 35
 (.ite (.not (.var 35))
 (.ret [.bool false])
 (.ite (.not (.eq (.var 33) (.int 0)))
 (.ite (.eq (.var 20) (.var 33))
 (.ite (.eq (.var 26) (.var 33))
 (.ite (.eq (.var 32) (.var 33))
 (.ite (.eq (.var 19) (.int 0))
 (.call 60 [.var 14,.var 15,.var 16,.var 17,.var 18,.nil,.nil,.nil,.nil,.int 0] 36
 (.ite (.var 36)
 (.call 60 [.var 21,.var 22,.var 23,.var 24,.var 25,.nil,.nil,.nil,.nil,.int 0] 37
 (.ite (.var 37)
 (.call 60 [.var 27,.var 28,.var 29,.var 30,.var 31,.nil,.nil,.nil,.nil,.int 0] 38
 (.ret [.var 38]))
 (.ret [.bool false])))
 (.ret [.bool false])))
 (.ret [.bool false]))
 (.ret [.bool false]))
 (.ret [.bool false]))
 (.ret [.bool false]))
 (.call 62 [.var 0,.var 1,.var 2,.var 3,.var 4] 36
 (.call 65 [.var 5,.var 6] 41
 (.ite (.not (.var 41))
 (.ite (.not (.eq (.var 20) (.int 3)))
 (.ret [.bool false])
 (.ite (.not (.eq (.var 19) (.int 0)))
 (.ret [.bool false])
 (.call 60 [.var 14,.var 15,.var 16,.var 17,.var 18,.nil,.nil,.nil,.nil,.int 0] 42
 (.ite (.not (.var 42))
 (.ret [.bool false])
 (.ite (.lt (.var 8) (.int 0))
 (.ite (.eq (.var 26) (.int 5))
 (.ite (.eq (.var 32) (.int 5))
 (.call 60 [.var 21,.var 22,.var 23,.var 24,.var 25,.nil,.nil,.nil,.nil,.int 0] 43
 (.ite (.var 43)
 (.call 60 [.var 27,.var 28,.var 29,.var 30,.var 31,.nil,.nil,.nil,.nil,.int 0] 44
 (.ret [.var 44]))
 (.ret [.bool false])))
 (.ret [.bool false]))
 (.ret [.bool false]))
 (.ite (.le (.len (.var 0)) (.var 8))
 (.ite (.eq (.var 26) (.int 5))
 (.ite (.eq (.var 32) (.int 5))
 (.call 60 [.var 21,.var 22,.var 23,.var 24,.var 25,.nil,.nil,.nil,.nil,.int 0] 43
 (.ite (.var 43)
 (.call 60 [.var 27,.var 28,.var 29,.var 30,.var 31,.nil,.nil,.nil,.nil,.int 0] 44
 (.ret [.var 44]))
 (.ret [.bool false])))
 (.ret [.bool false]))
 (.ret [.bool false]))
 (.call 62 [.var 0,.var 1,.var 2,.var 3,.var 4] 43
 (.call 67 [.var 43,.var 44,.var 45,.var 46,.var 47,.var 8] 48
 (.ite (.not (.var 53))
 (.ite (.not (.eq (.var 26) (.int 8)))
 (.ret [.bool false])
 (.call 60 [.var 21,.var 22,.var 23,.var 24,.var 25,.nil,.nil,.nil,.nil,.int 0] 54
 (.ite (.not (.var 54))
 (.ret [.bool false])
 (.need (.le (.int 0) (.var 8))
 (.need (.lt (.var 8) (.len (.var 0)))
 (.ite (.eq (.cell (.var 0) (.var 8) 0) (.int 0))
 (.ite (.eq (.var 32) (.int 8))
 (.call 60 [.var 27,.var 28,.var 29,.var 30,.var 31,.nil,.nil,.nil,.nil,.int 0] 55
 (.ret [.var 55]))
 (.ret [.bool false]))
 (.call 62 [.var 0,.var 1,.var 2,.var 3,.var 4] 55
 (.call 68 [.var 55,.var 56,.var 57,.var 58,.var 59,.var 8] 60
 (.ite (.eq (.var 32) (.int 0))
 (.call 60 [.var 27,.var 28,.var 29,.var 30,.var 31,.var 60,.var 61,.var 62,.var 63,.var 64] 65
 (.ret [.var 65]))
 (.ret [.bool false]))))))))))
 (.ite (.not (.eq (.var 26) (.int 0)))
 (.ret [.bool false])
 (.call 60 [.var 21,.var 22,.var 23,.var 24,.var 25,.var 48,.var 49,.var 50,.var 51,.var 52] 54
 (.ite (.not (.var 54))
 (.ret [.bool false])
 (.need (.le (.int 0) (.var 8))
 (.need (.lt (.var 8) (.len (.var 0)))
 (.ite (.eq (.cell (.var 0) (.var 8) 0) (.int 0))
 (.ite (.eq (.var 32) (.int 8))
 (.call 60 [.var 27,.var 28,.var 29,.var 30,.var 31,.nil,.nil,.nil,.nil,.int 0] 55
 (.ret [.var 55]))
 (.ret [.bool false]))
 (.call 62 [.var 0,.var 1,.var 2,.var 3,.var 4] 55
 (.call 68 [.var 55,.var 56,.var 57,.var 58,.var 59,.var 8] 60
 (.ite (.eq (.var 32) (.int 0))
 (.call 60 [.var 27,.var 28,.var 29,.var 30,.var 31,.var 60,.var 61,.var 62,.var 63,.var 64] 65
 (.ret [.var 65]))
 (.ret [.bool false])))))))))))))))))))
 (.ite (.lt (.var 7) (.int 0))
 (.ite (.not (.eq (.var 20) (.int 3)))
 (.ret [.bool false])
 (.ite (.not (.eq (.var 19) (.int 0)))
 (.ret [.bool false])
 (.call 60 [.var 14,.var 15,.var 16,.var 17,.var 18,.nil,.nil,.nil,.nil,.int 0] 42
 (.ite (.not (.var 42))
 (.ret [.bool false])
 (.ite (.lt (.var 8) (.int 0))
 (.ite (.eq (.var 26) (.int 5))
 (.ite (.eq (.var 32) (.int 5))
 (.call 60 [.var 21,.var 22,.var 23,.var 24,.var 25,.nil,.nil,.nil,.nil,.int 0] 43
 (.ite (.var 43)
 (.call 60 [.var 27,.var 28,.var 29,.var 30,.var 31,.nil,.nil,.nil,.nil,.int 0] 44
 (.ret [.var 44]))
 (.ret [.bool false])))
 (.ret [.bool false]))
 (.ret [.bool false]))
 (.ite (.le (.len (.var 0)) (.var 8))
 (.ite (.eq (.var 26) (.int 5))
 (.ite (.eq (.var 32) (.int 5))
 (.call 60 [.var 21,.var 22,.var 23,.var 24,.var 25,.nil,.nil,.nil,.nil,.int 0] 43
 (.ite (.var 43)
 (.call 60 [.var 27,.var 28,.var 29,.var 30,.var 31,.nil,.nil,.nil,.nil,.int 0] 44
 (.ret [.var 44]))
 (.ret [.bool false])))
 (.ret [.bool false]))
 (.ret [.bool false]))
 (.call 62 [.var 0,.var 1,.var 2,.var 3,.var 4] 43
 (.call 67 [.var 43,.var 44,.var 45,.var 46,.var 47,.var 8] 48
 (.ite (.not (.var 53))
 (.ite (.not (.eq (.var 26) (.int 8)))
 (.ret [.bool false])
 (.call 60 [.var 21,.var 22,.var 23,.var 24,.var 25,.nil,.nil,.nil,.nil,.int 0] 54
 (.ite (.not (.var 54))
 (.ret [.bool false])
 (.need (.le (.int 0) (.var 8))
 (.need (.lt (.var 8) (.len (.var 0)))
 (.ite (.eq (.cell (.var 0) (.var 8) 0) (.int 0))
 (.ite (.eq (.var 32) (.int 8))
 (.call 60 [.var 27,.var 28,.var 29,.var 30,.var 31,.nil,.nil,.nil,.nil,.int 0] 55
 (.ret [.var 55]))
 (.ret [.bool false]))
 (.call 62 [.var 0,.var 1,.var 2,.var 3,.var 4] 55
 (.call 68 [.var 55,.var 56,.var 57,.var 58,.var 59,.var 8] 60
 (.ite (.eq (.var 32) (.int 0))
 (.call 60 [.var 27,.var 28,.var 29,.var 30,.var 31,.var 60,.var 61,.var 62,.var 63,.var 64] 65
 (.ret [.var 65]))
 (.ret [.bool false]))))))))))
 (.ite (.not (.eq (.var 26) (.int 0)))
 (.ret [.bool false])
 (.call 60 [.var 21,.var 22,.var 23,.var 24,.var 25,.var 48,.var 49,.var 50,.var 51,.var 52] 54
 (.ite (.not (.var 54))
 (.ret [.bool false])
 (.need (.le (.int 0) (.var 8))
 (.need (.lt (.var 8) (.len (.var 0)))
 (.ite (.eq (.cell (.var 0) (.var 8) 0) (.int 0))
 (.ite (.eq (.var 32) (.int 8))
 (.call 60 [.var 27,.var 28,.var 29,.var 30,.var 31,.nil,.nil,.nil,.nil,.int 0] 55
 (.ret [.var 55]))
 (.ret [.bool false]))
 (.call 62 [.var 0,.var 1,.var 2,.var 3,.var 4] 55
 (.call 68 [.var 55,.var 56,.var 57,.var 58,.var 59,.var 8] 60
 (.ite (.eq (.var 32) (.int 0))
 (.call 60 [.var 27,.var 28,.var 29,.var 30,.var 31,.var 60,.var 61,.var 62,.var 63,.var 64] 65
 (.ret [.var 65]))
 (.ret [.bool false])))))))))))))))))))
 (.ite (.lt (.int 2000000) (.var 7))
 (.ite (.not (.eq (.var 20) (.int 3)))
 (.ret [.bool false])
 (.ite (.not (.eq (.var 19) (.int 0)))
 (.ret [.bool false])
 (.call 60 [.var 14,.var 15,.var 16,.var 17,.var 18,.nil,.nil,.nil,.nil,.int 0] 42
 (.ite (.not (.var 42))
 (.ret [.bool false])
 (.ite (.lt (.var 8) (.int 0))
 (.ite (.eq (.var 26) (.int 5))
 (.ite (.eq (.var 32) (.int 5))
 (.call 60 [.var 21,.var 22,.var 23,.var 24,.var 25,.nil,.nil,.nil,.nil,.int 0] 43
 (.ite (.var 43)
 (.call 60 [.var 27,.var 28,.var 29,.var 30,.var 31,.nil,.nil,.nil,.nil,.int 0] 44
 (.ret [.var 44]))
 (.ret [.bool false])))
 (.ret [.bool false]))
 (.ret [.bool false]))
 (.ite (.le (.len (.var 0)) (.var 8))
 (.ite (.eq (.var 26) (.int 5))
 (.ite (.eq (.var 32) (.int 5))
 (.call 60 [.var 21,.var 22,.var 23,.var 24,.var 25,.nil,.nil,.nil,.nil,.int 0] 43
 (.ite (.var 43)
 (.call 60 [.var 27,.var 28,.var 29,.var 30,.var 31,.nil,.nil,.nil,.nil,.int 0] 44
 (.ret [.var 44]))
 (.ret [.bool false])))
 (.ret [.bool false]))
 (.ret [.bool false]))
 (.call 62 [.var 0,.var 1,.var 2,.var 3,.var 4] 43
 (.call 67 [.var 43,.var 44,.var 45,.var 46,.var 47,.var 8] 48
 (.ite (.not (.var 53))
 (.ite (.not (.eq (.var 26) (.int 8)))
 (.ret [.bool false])
 (.call 60 [.var 21,.var 22,.var 23,.var 24,.var 25,.nil,.nil,.nil,.nil,.int 0] 54
 (.ite (.not (.var 54))
 (.ret [.bool false])
 (.need (.le (.int 0) (.var 8))
 (.need (.lt (.var 8) (.len (.var 0)))
 (.ite (.eq (.cell (.var 0) (.var 8) 0) (.int 0))
 (.ite (.eq (.var 32) (.int 8))
 (.call 60 [.var 27,.var 28,.var 29,.var 30,.var 31,.nil,.nil,.nil,.nil,.int 0] 55
 (.ret [.var 55]))
 (.ret [.bool false]))
 (.call 62 [.var 0,.var 1,.var 2,.var 3,.var 4] 55
 (.call 68 [.var 55,.var 56,.var 57,.var 58,.var 59,.var 8] 60
 (.ite (.eq (.var 32) (.int 0))
 (.call 60 [.var 27,.var 28,.var 29,.var 30,.var 31,.var 60,.var 61,.var 62,.var 63,.var 64] 65
 (.ret [.var 65]))
 (.ret [.bool false]))))))))))
 (.ite (.not (.eq (.var 26) (.int 0)))
 (.ret [.bool false])
 (.call 60 [.var 21,.var 22,.var 23,.var 24,.var 25,.var 48,.var 49,.var 50,.var 51,.var 52] 54
 (.ite (.not (.var 54))
 (.ret [.bool false])
 (.need (.le (.int 0) (.var 8))
 (.need (.lt (.var 8) (.len (.var 0)))
 (.ite (.eq (.cell (.var 0) (.var 8) 0) (.int 0))
 (.ite (.eq (.var 32) (.int 8))
 (.call 60 [.var 27,.var 28,.var 29,.var 30,.var 31,.nil,.nil,.nil,.nil,.int 0] 55
 (.ret [.var 55]))
 (.ret [.bool false]))
 (.call 62 [.var 0,.var 1,.var 2,.var 3,.var 4] 55
 (.call 68 [.var 55,.var 56,.var 57,.var 58,.var 59,.var 8] 60
 (.ite (.eq (.var 32) (.int 0))
 (.call 60 [.var 27,.var 28,.var 29,.var 30,.var 31,.var 60,.var 61,.var 62,.var 63,.var 64] 65
 (.ret [.var 65]))
 (.ret [.bool false])))))))))))))))))))
 (.call 66 [.var 36,.var 37,.var 38,.var 39,.var 40,.var 5,.var 6,.var 7] 42
 (.ite (.not (.var 48))
 (.ite (.not (.eq (.var 20) (.int 7)))
 (.ret [.bool false])
 (.ite (.not (.eq (.var 19) (.int 0)))
 (.ret [.bool false])
 (.call 60 [.var 14,.var 15,.var 16,.var 17,.var 18,.nil,.nil,.nil,.nil,.int 0] 49
 (.ite (.not (.var 49))
 (.ret [.bool false])
 (.ite (.lt (.var 8) (.int 0))
 (.ite (.eq (.var 26) (.int 5))
 (.ite (.eq (.var 32) (.int 5))
 (.call 60 [.var 21,.var 22,.var 23,.var 24,.var 25,.nil,.nil,.nil,.nil,.int 0] 50
 (.ite (.var 50)
 (.call 60 [.var 27,.var 28,.var 29,.var 30,.var 31,.nil,.nil,.nil,.nil,.int 0] 51
 (.ret [.var 51]))
 (.ret [.bool false])))
 (.ret [.bool false]))
 (.ret [.bool false]))
 (.ite (.le (.len (.var 0)) (.var 8))
 (.ite (.eq (.var 26) (.int 5))
 (.ite (.eq (.var 32) (.int 5))
 (.call 60 [.var 21,.var 22,.var 23,.var 24,.var 25,.nil,.nil,.nil,.nil,.int 0] 50
 (.ite (.var 50)
 (.call 60 [.var 27,.var 28,.var 29,.var 30,.var 31,.nil,.nil,.nil,.nil,.int 0] 51
 (.ret [.var 51]))
 (.ret [.bool false])))
 (.ret [.bool false]))
 (.ret [.bool false]))
 (.call 62 [.var 0,.var 1,.var 2,.var 3,.var 4] 50
 (.call 67 [.var 50,.var 51,.var 52,.var 53,.var 54,.var 8] 55
 (.ite (.not (.var 60))
 (.ite (.not (.eq (.var 26) (.int 8)))
 (.ret [.bool false])
 (.call 60 [.var 21,.var 22,.var 23,.var 24,.var 25,.nil,.nil,.nil,.nil,.int 0] 61
 (.ite (.not (.var 61))
 (.ret [.bool false])
 (.need (.le (.int 0) (.var 8))
 (.need (.lt (.var 8) (.len (.var 0)))
 (.ite (.eq (.cell (.var 0) (.var 8) 0) (.int 0))
 (.ite (.eq (.var 32) (.int 8))
 (.call 60 [.var 27,.var 28,.var 29,.var 30,.var 31,.nil,.nil,.nil,.nil,.int 0] 62
 (.ret [.var 62]))
 (.ret [.bool false]))
 (.call 62 [.var 0,.var 1,.var 2,.var 3,.var 4] 62
 (.call 68 [.var 62,.var 63,.var 64,.var 65,.var 66,.var 8] 67
 (.ite (.eq (.var 32) (.int 0))
 (.call 60 [.var 27,.var 28,.var 29,.var 30,.var 31,.var 67,.var 68,.var 69,.var 70,.var 71] 72
 (.ret [.var 72]))
 (.ret [.bool false]))))))))))
 (.ite (.not (.eq (.var 26) (.int 0)))
 (.ret [.bool false])
 (.call 60 [.var 21,.var 22,.var 23,.var 24,.var 25,.var 55,.var 56,.var 57,.var 58,.var 59] 61
 (.ite (.not (.var 61))
 (.ret [.bool false])
 (.need (.le (.int 0) (.var 8))
 (.need (.lt (.var 8) (.len (.var 0)))
 (.ite (.eq (.cell (.var 0) (.var 8) 0) (.int 0))
 (.ite (.eq (.var 32) (.int 8))
 (.call 60 [.var 27,.var 28,.var 29,.var 30,.var 31,.nil,.nil,.nil,.nil,.int 0] 62
 (.ret [.var 62]))
 (.ret [.bool false]))
 (.call 62 [.var 0,.var 1,.var 2,.var 3,.var 4] 62
 (.call 68 [.var 62,.var 63,.var 64,.var 65,.var 66,.var 8] 67
 (.ite (.eq (.var 32) (.int 0))
 (.call 60 [.var 27,.var 28,.var 29,.var 30,.var 31,.var 67,.var 68,.var 69,.var 70,.var 71] 72
 (.ret [.var 72]))
 (.ret [.bool false])))))))))))))))))))
 (.ite (.not (.eq (.var 20) (.int 0)))
 (.ret [.bool false])
 (.ite (.not (.eq (.var 19) (.var 47)))
 (.ret [.bool false])
 (.call 60 [.var 14,.var 15,.var 16,.var 17,.var 18,.var 42,.var 43,.var 44,.var 45,.var 46] 49
 (.ite (.not (.var 49))
 (.ret [.bool false])
 (.ite (.lt (.var 8) (.int 0))
 (.ite (.eq (.var 26) (.int 5))
 (.ite (.eq (.var 32) (.int 5))
 (.call 60 [.var 21,.var 22,.var 23,.var 24,.var 25,.nil,.nil,.nil,.nil,.int 0] 50
 (.ite (.var 50)
 (.call 60 [.var 27,.var 28,.var 29,.var 30,.var 31,.nil,.nil,.nil,.nil,.int 0] 51
 (.ret [.var 51]))
 (.ret [.bool false])))
 (.ret [.bool false]))
 (.ret [.bool false]))
 (.ite (.le (.len (.var 0)) (.var 8))
 (.ite (.eq (.var 26) (.int 5))
 (.ite (.eq (.var 32) (.int 5))
 (.call 60 [.var 21,.var 22,.var 23,.var 24,.var 25,.nil,.nil,.nil,.nil,.int 0] 50
 (.ite (.var 50)
 (.call 60 [.var 27,.var 28,.var 29,.var 30,.var 31,.nil,.nil,.nil,.nil,.int 0] 51
 (.ret [.var 51]))
 (.ret [.bool false])))
 (.ret [.bool false]))
 (.ret [.bool false]))
 (.call 62 [.var 0,.var 1,.var 2,.var 3,.var 4] 50
 (.call 67 [.var 50,.var 51,.var 52,.var 53,.var 54,.var 8] 55
 (.ite (.not (.var 60))
 (.ite (.not (.eq (.var 26) (.int 8)))
 (.ret [.bool false])
 (.call 60 [.var 21,.var 22,.var 23,.var 24,.var 25,.nil,.nil,.nil,.nil,.int 0] 61
 (.ite (.not (.var 61))
 (.ret [.bool false])
 (.need (.le (.int 0) (.var 8))
 (.need (.lt (.var 8) (.len (.var 0)))
 (.ite (.eq (.cell (.var 0) (.var 8) 0) (.int 0))
 (.ite (.eq (.var 32) (.int 8))
 (.call 60 [.var 27,.var 28,.var 29,.var 30,.var 31,.nil,.nil,.nil,.nil,.int 0] 62
 (.ret [.var 62]))
 (.ret [.bool false]))
 (.call 62 [.var 0,.var 1,.var 2,.var 3,.var 4] 62
 (.call 68 [.var 62,.var 63,.var 64,.var 65,.var 66,.var 8] 67
 (.ite (.eq (.var 32) (.int 0))
 (.call 60 [.var 27,.var 28,.var 29,.var 30,.var 31,.var 67,.var 68,.var 69,.var 70,.var 71] 72
 (.ret [.var 72]))
 (.ret [.bool false]))))))))))
 (.ite (.not (.eq (.var 26) (.int 0)))
 (.ret [.bool false])
 (.call 60 [.var 21,.var 22,.var 23,.var 24,.var 25,.var 55,.var 56,.var 57,.var 58,.var 59] 61
 (.ite (.not (.var 61))
 (.ret [.bool false])
 (.need (.le (.int 0) (.var 8))
 (.need (.lt (.var 8) (.len (.var 0)))
 (.ite (.eq (.cell (.var 0) (.var 8) 0) (.int 0))
 (.ite (.eq (.var 32) (.int 8))
 (.call 60 [.var 27,.var 28,.var 29,.var 30,.var 31,.nil,.nil,.nil,.nil,.int 0] 62
 (.ret [.var 62]))
 (.ret [.bool false]))
 (.call 62 [.var 0,.var 1,.var 2,.var 3,.var 4] 62
 (.call 68 [.var 62,.var 63,.var 64,.var 65,.var 66,.var 8] 67
 (.ite (.eq (.var 32) (.int 0))
 (.call 60 [.var 27,.var 28,.var 29,.var 30,.var 31,.var 67,.var 68,.var 69,.var 70,.var 71] 72
 (.ret [.var 72]))
 (.ret [.bool false]))))))))))))))))))))))))))))))))))))
theorem run8 : run z8 6000 [.code (Try.f8.body.getD .skip),.fin (bt z8 Try.f8.results.toList 50)] { fn:=8,tmps:=z8.sig.aM ++ List.replicate (Try.f8.ntmps - z8.sig.aM.length) (.v (.one .undef)),stk:=[],h:=z8.sig.h0,nx:=z8.sig.ins.length,known:=[]}=t8:=by kernel_rfl
set_option maxHeartbeats 4000000 in
theorem ok8 : cB Try.prog 8 d8.ct:=by
 refine aD (d:=d8) (Z:=z8) (Γ:=gam l8) (fn:=Try.f8) (c:=Try.f8.body.getD .skip) (bg tok mixed (all_cons ok62 (all_cons ok54 (all_cons ok63 (all_cons ok64 (all_cons ok58 (all_cons ok50 (all_cons ok60 (all_cons ok65 (all_cons ok67 (all_cons ok68 (all_cons ok66 all_nil))))))))))) bh) Try.func8 (by kernel_rfl) (by kernel_rfl) rfl run8 fun E hk hp=>?_
 obtain ⟨hk0,hk1,hk2,hk3,hk4,hk5,hk6,hk7,hk8,_⟩:=hk
 obtain ⟨m,e0,e1,e2,e3,e4,b0,b1,b2,b3⟩:=cv (d0:=E 0) (d1:=E 1) (d2:=E 2) (d3:=E 3) (d4:=E 4) hk0 hk1 hk2 hk3 hk4
 obtain ⟨k,e5,e6⟩:=vM (d0:=E 5) (d1:=E 6) hk5 hk6
 obtain ⟨x,e7⟩:=ok_int (d:=E 7) hk7
 obtain ⟨x2,e8⟩:=ok_int (d:=E 8) hk8
 have el : aH E d8.sig.ins.length=[au m.slots,af m.heads,af m.free,af m.locks,.i m.now,.i k.a,.i k.b,.i x,.i x2]:=by
  show [E 0,E 1,E 2,E 3,E 4,E 5,E 6,E 7,E 8]=_
  rw [e0,e1,e2,e3,e4,e5,e6,e7,e8]
 rw [el] at hp
 rw [el]
 rw [Env.bJ el]
 clear el e0 e1 e2 e3 e4 e5 e6 e7 e8
 simp only [d8]
 unfold t8
 refine ai d62 m.cds rfl trivial (by simp only [nrm,xdn,reduceIte,Nat.reduceLT,Nat.reduceSub,Nat.reduceAdd,fn62]) ?_
 refine ai d54 ((taken m k x).1.cds ++ [.i (taken m k x).2.1,.i (taken m k x).2.2]) rfl trivial (by simp only [nrm,xdn,reduceIte,Nat.reduceLT,Nat.reduceSub,Nat.reduceAdd,Mem.cds,lca,fn54,eZ]) ?_
 refine ai d63 ((held m x2).1.cds ++ [.i (held m x2).2]) rfl trivial (by simp only [nrm,xdn,reduceIte,Nat.reduceLT,Nat.reduceSub,Nat.reduceAdd,Mem.cds,lca,fn63]) ?_
 refine ai d64 ((Gt m x2).1.cds ++ [.i (Gt m x2).2]) rfl trivial (by simp only [nrm,xdn,reduceIte,Nat.reduceLT,Nat.reduceSub,Nat.reduceAdd,Mem.cds,lca,fn64]) ?_
 refine ai d58 [.i (cP m)] rfl trivial (by simp only [nrm,xdn,reduceIte,Nat.reduceLT,Nat.reduceSub,Nat.reduceAdd,fn58]) ?_
 refine ai d50 [.b true] rfl trivial rfl ?_
 refine Fk (by simp only [nrm,xdn,reduceIte,Nat.reduceLT,Nat.reduceSub,Nat.reduceAdd,Mem.cds,lca,decide_true,Bool.not_true,not_true_eq_false,decide_false,beq_self_eq_true]) ?_
 refine ai d60 [.b true] rfl trivial (by simp only [nrm,xdn,reduceIte,Nat.reduceLT,Nat.reduceSub,Nat.reduceAdd,Mem.cds,lca,Hm]) ?_
 refine Fk (by simp only [nrm,xdn,reduceIte,Nat.reduceLT,Nat.reduceSub,Nat.reduceAdd,Mem.cds,lca,decide_true,Bool.not_true,not_true_eq_false,decide_false,beq_self_eq_true]) ?_
 refine G0 (fun h=>?_) (fun h=>?_)
 ·simp only [nrm,xdn,reduceIte,Nat.reduceLT,Nat.reduceSub,Nat.reduceAdd,Mem.cds,lca,Bool.not_eq_true'] at h
  have hT : taken m k x=(Mem.none,0,cP m):=by unfold taken;rw [if_pos h]
  have hH : held m x2=(Mem.none,cP m):=by unfold held;rw [if_pos h]
  have hL : Gt m x2=(Mem.none,cP m):=by unfold Gt;rw [if_pos h]
  rw [hT,hH,hL]
  refine Bf (by simp only [nrm,xdn,reduceIte,Nat.reduceLT,Nat.reduceSub,Nat.reduceAdd,Mem.cds,lca]) ?_
  refine Bf (by simp only [nrm,xdn,reduceIte,Nat.reduceLT,Nat.reduceSub,Nat.reduceAdd,Mem.cds,lca]) ?_
  refine Bf (by simp only [nrm,xdn,reduceIte,Nat.reduceLT,Nat.reduceSub,Nat.reduceAdd,Mem.cds,lca]) ?_
  refine Bf (by simp only [nrm,xdn,reduceIte,Nat.reduceLT,Nat.reduceSub,Nat.reduceAdd,Mem.cds,lca]) ?_
  refine ai d60 [.b true] rfl trivial (by simp only [nrm,xdn,reduceIte,Nat.reduceLT,Nat.reduceSub,Nat.reduceAdd,Mem.cds,Mem.none,G5,G7,lca,G8]) ?_
  refine Bf (by simp only [nrm,xdn,reduceIte,Nat.reduceLT,Nat.reduceSub,Nat.reduceAdd,Mem.cds,lca]) ?_
  refine ai d60 [.b true] rfl trivial (by simp only [nrm,xdn,reduceIte,Nat.reduceLT,Nat.reduceSub,Nat.reduceAdd,Mem.cds,Mem.none,G5,G7,lca,G8]) ?_
  refine Bf (by simp only [nrm,xdn,reduceIte,Nat.reduceLT,Nat.reduceSub,Nat.reduceAdd,Mem.cds,lca]) ?_
  refine ai d60 [.b true] rfl trivial (by simp only [nrm,xdn,reduceIte,Nat.reduceLT,Nat.reduceSub,Nat.reduceAdd,Mem.cds,Mem.none,G5,G7,lca,G8]) ?_
  refine aj ?_
  simp only [nrm,xdn,reduceIte,Nat.reduceLT,Nat.reduceSub,Nat.reduceAdd]
 simp only [nrm,xdn,reduceIte,Nat.reduceLT,Nat.reduceSub,Nat.reduceAdd,Mem.cds,lca,Bool.not_eq_false'] at h
 have hm:=(dT m).1 h
 have hnf:=hm.nf
 have hlast:=hm.last
 refine ai d62 m.cds rfl trivial (by simp only [nrm,xdn,reduceIte,Nat.reduceLT,Nat.reduceSub,Nat.reduceAdd,fn62]) ?_
 refine ai d65 [.b (isKey k)] rfl trivial (by simp only [nrm,xdn,reduceIte,Nat.reduceLT,Nat.reduceSub,Nat.reduceAdd,fn65]) (G0 (fun h1=>?_) (fun h1=>G0 (fun h2=>?_) (fun h2=>G0 (fun h3=>?_) (fun h3=>?_))))
 ·simp only [nrm,xdn,reduceIte,Nat.reduceLT,Nat.reduceSub,Nat.reduceAdd,Bool.not_eq_true'] at h1
  have hT : taken m k x=(Mem.none,0,3):=by unfold taken;rw [if_neg (by omega),Je h1,if_pos (by decide)]
  rw [hT]
  refine Fk (by simp only [nrm,xdn,reduceIte,Nat.reduceLT,Nat.reduceSub,Nat.reduceAdd,Mem.cds,lca,decide_true,Bool.not_true,not_true_eq_false,decide_false,beq_self_eq_true]) ?_
  refine Fk (by simp only [nrm,xdn,reduceIte,Nat.reduceLT,Nat.reduceSub,Nat.reduceAdd,Mem.cds,lca,decide_true,Bool.not_true,not_true_eq_false,decide_false,beq_self_eq_true]) ?_
  refine ai d60 [.b true] rfl trivial (by simp only [nrm,xdn,reduceIte,Nat.reduceLT,Nat.reduceSub,Nat.reduceAdd,Mem.cds,Mem.none,G5,G7,lca,G8]) ?_
  refine Fk (by simp only [nrm,xdn,reduceIte,Nat.reduceLT,Nat.reduceSub,Nat.reduceAdd,Mem.cds,lca,decide_true,Bool.not_true,not_true_eq_false,decide_false,beq_self_eq_true]) ?_
  refine G0 (fun a1=>?_) (fun a1=>G0 (fun a1=>?_) (fun a2=>?_))
  ·
   simp only [nrm,xdn,reduceIte,Nat.reduceLT,Nat.reduceSub,Nat.reduceAdd,aN] at a1
   have ha : ¬ (0≤x2∧x2 < (m.slots.length : Int)):=by omega
   have hH : held m x2=(Mem.none,5):=by unfold held;rw [if_neg (by omega),if_neg ha]
   have hL : Gt m x2=(Mem.none,5):=by unfold Gt;rw [if_neg (by omega),if_neg ha]
   rw [hH,hL]
   refine Bf (by simp only [nrm,xdn,reduceIte,Nat.reduceLT,Nat.reduceSub,Nat.reduceAdd,Mem.cds,lca]) ?_
   refine Bf (by simp only [nrm,xdn,reduceIte,Nat.reduceLT,Nat.reduceSub,Nat.reduceAdd,Mem.cds,lca]) ?_
   refine ai d60 [.b true] rfl trivial (by simp only [nrm,xdn,reduceIte,Nat.reduceLT,Nat.reduceSub,Nat.reduceAdd,Mem.cds,Mem.none,G5,G7,lca,G8]) ?_
   refine Bf (by simp only [nrm,xdn,reduceIte,Nat.reduceLT,Nat.reduceSub,Nat.reduceAdd,Mem.cds,lca]) ?_
   refine ai d60 [.b true] rfl trivial (by simp only [nrm,xdn,reduceIte,Nat.reduceLT,Nat.reduceSub,Nat.reduceAdd,Mem.cds,Mem.none,G5,G7,lca,G8]) ?_
   refine aj ?_
   simp only [nrm,xdn,reduceIte,Nat.reduceLT,Nat.reduceSub,Nat.reduceAdd]
  ·
   simp only [nrm,xdn,reduceIte,Nat.reduceLT,Nat.reduceSub,Nat.reduceAdd,aN] at a1
   have ha : ¬ (0≤x2∧x2 < (m.slots.length : Int)):=by omega
   have hH : held m x2=(Mem.none,5):=by unfold held;rw [if_neg (by omega),if_neg ha]
   have hL : Gt m x2=(Mem.none,5):=by unfold Gt;rw [if_neg (by omega),if_neg ha]
   rw [hH,hL]
   refine Bf (by simp only [nrm,xdn,reduceIte,Nat.reduceLT,Nat.reduceSub,Nat.reduceAdd,Mem.cds,lca]) ?_
   refine Bf (by simp only [nrm,xdn,reduceIte,Nat.reduceLT,Nat.reduceSub,Nat.reduceAdd,Mem.cds,lca]) ?_
   refine ai d60 [.b true] rfl trivial (by simp only [nrm,xdn,reduceIte,Nat.reduceLT,Nat.reduceSub,Nat.reduceAdd,Mem.cds,Mem.none,G5,G7,lca,G8]) ?_
   refine Bf (by simp only [nrm,xdn,reduceIte,Nat.reduceLT,Nat.reduceSub,Nat.reduceAdd,Mem.cds,lca]) ?_
   refine ai d60 [.b true] rfl trivial (by simp only [nrm,xdn,reduceIte,Nat.reduceLT,Nat.reduceSub,Nat.reduceAdd,Mem.cds,Mem.none,G5,G7,lca,G8]) ?_
   refine aj ?_
   simp only [nrm,xdn,reduceIte,Nat.reduceLT,Nat.reduceSub,Nat.reduceAdd]
  simp only [nrm,xdn,reduceIte,Nat.reduceLT,Nat.reduceSub,Nat.reduceAdd,aN] at a1 a2
  have ha : 0≤x2∧x2 < (m.slots.length : Int):=by omega
  have hr:=hm.refs ha.1 ha.2
  refine ai d62 m.cds rfl trivial (by simp only [nrm,xdn,reduceIte,Nat.reduceLT,Nat.reduceSub,Nat.reduceAdd,fn62]) ?_
  refine ai d67 ((hold m x2).1.cds ++ [.b (hold m x2).2]) rfl ?_ (by simp only [nrm,xdn,reduceIte,Nat.reduceLT,Nat.reduceSub,Nat.reduceAdd,Mem.cds,lca,fn67]) (G0 (fun c=>?_) (fun c=>?_))
  ·simp only [nrm,xdn,reduceIte,Nat.reduceLT,Nat.reduceSub,Nat.reduceAdd,Mem.cds,lca]
   have hh : d67.pre [au m.slots,af m.heads,af m.free,af m.locks,.i m.now,.i x2]:=by
    simp only [d67,mem_of,aA,List.getD_cons_zero,List.getD_cons_succ,CD.aR]
    exact ⟨ha.1,ha.2,hr.1,hr.2⟩
   exact hh
  ·simp only [nrm,xdn,reduceIte,Nat.reduceLT,Nat.reduceSub,Nat.reduceAdd,Mem.cds,lca,Bool.not_eq_true'] at c
   have hH : held m x2=(Mem.none,8):=by unfold held;rw [if_neg (by omega),if_pos ha,if_neg (by rw [c];decide)]
   rw [hH]
   refine Fk (by simp only [nrm,xdn,reduceIte,Nat.reduceLT,Nat.reduceSub,Nat.reduceAdd,Mem.cds,lca,decide_true,Bool.not_true,not_true_eq_false,decide_false,beq_self_eq_true]) ?_
   refine ai d60 [.b true] rfl trivial (by simp only [nrm,xdn,reduceIte,Nat.reduceLT,Nat.reduceSub,Nat.reduceAdd,Mem.cds,Mem.none,G5,G7,lca,G8]) ?_
   refine Fk (by simp only [nrm,xdn,reduceIte,Nat.reduceLT,Nat.reduceSub,Nat.reduceAdd,Mem.cds,lca,decide_true,Bool.not_true,not_true_eq_false,decide_false,beq_self_eq_true]) ?_
   refine ag (by simp only [nrm,xdn,reduceIte,Nat.reduceLT,Nat.reduceSub,Nat.reduceAdd];omega) (ag (by simp only [nrm,xdn,reduceIte,Nat.reduceLT,Nat.reduceSub,Nat.reduceAdd,aN];omega) (G0 (fun c'=>?_) (fun c'=>?_)))
   ·simp only [nrm,xdn,reduceIte,Nat.reduceLT,Nat.reduceSub,Nat.reduceAdd,cX] at c'
    have c' : (msl m x2.toNat).refs=0:=c'
    have hL : Gt m x2=(Mem.none,8):=by unfold Gt;rw [if_neg (by omega),if_pos ha,if_pos c']
    rw [hL]
    refine Bf (by simp only [nrm,xdn,reduceIte,Nat.reduceLT,Nat.reduceSub,Nat.reduceAdd,Mem.cds,lca]) ?_
    refine ai d60 [.b true] rfl trivial (by simp only [nrm,xdn,reduceIte,Nat.reduceLT,Nat.reduceSub,Nat.reduceAdd,Mem.cds,Mem.none,G5,G7,lca,G8]) ?_
    refine aj ?_
    simp only [nrm,xdn,reduceIte,Nat.reduceLT,Nat.reduceSub,Nat.reduceAdd]
   ·simp only [nrm,xdn,reduceIte,Nat.reduceLT,Nat.reduceSub,Nat.reduceAdd,cX] at c'
    have c' : (msl m x2.toNat).refs≠0:=c'
    have hL : Gt m x2=(put m x2,0):=by unfold Gt;rw [if_neg (by omega),if_pos ha,if_neg c']
    rw [hL]
    refine ai d62 m.cds rfl trivial (by simp only [nrm,xdn,reduceIte,Nat.reduceLT,Nat.reduceSub,Nat.reduceAdd,fn62]) ?_
    refine ai d68 (put m x2).cds rfl ?_ (by simp only [nrm,xdn,reduceIte,Nat.reduceLT,Nat.reduceSub,Nat.reduceAdd,Mem.cds,lca,fn68]) ?_
    ·simp only [nrm,xdn,reduceIte,Nat.reduceLT,Nat.reduceSub,Nat.reduceAdd,Mem.cds,lca]
     have hh : d68.pre [au m.slots,af m.heads,af m.free,af m.locks,.i m.now,.i x2]:=by
      simp only [d68,mem_of,aA,List.getD_cons_zero,List.getD_cons_succ,CD.aR]
      exact ⟨ha.1,ha.2,hr.1,hr.2,by omega⟩
     exact hh
    generalize put m x2=q
    refine Bf (by simp only [nrm,xdn,reduceIte,Nat.reduceLT,Nat.reduceSub,Nat.reduceAdd,Mem.cds,lca]) ?_
    refine ai d60 [.b true] rfl trivial (by simp only [nrm,xdn,reduceIte,Nat.reduceLT,Nat.reduceSub,Nat.reduceAdd,Mem.cds,lca,Hm]) ?_
    refine aj ?_
    simp only [nrm,xdn,reduceIte,Nat.reduceLT,Nat.reduceSub,Nat.reduceAdd]
  ·simp only [nrm,xdn,reduceIte,Nat.reduceLT,Nat.reduceSub,Nat.reduceAdd,Mem.cds,lca,Bool.not_eq_false'] at c
   have hH : held m x2=((hold m x2).1,0):=by unfold held;rw [if_neg (by omega),if_pos ha,if_pos c]
   rw [hH]
   generalize (hold m x2).1=y
   refine Fk (by simp only [nrm,xdn,reduceIte,Nat.reduceLT,Nat.reduceSub,Nat.reduceAdd,Mem.cds,lca,decide_true,Bool.not_true,not_true_eq_false,decide_false,beq_self_eq_true]) ?_
   refine ai d60 [.b true] rfl trivial (by simp only [nrm,xdn,reduceIte,Nat.reduceLT,Nat.reduceSub,Nat.reduceAdd,Mem.cds,lca,Hm]) ?_
   refine Fk (by simp only [nrm,xdn,reduceIte,Nat.reduceLT,Nat.reduceSub,Nat.reduceAdd,Mem.cds,lca,decide_true,Bool.not_true,not_true_eq_false,decide_false,beq_self_eq_true]) ?_
   refine ag (by simp only [nrm,xdn,reduceIte,Nat.reduceLT,Nat.reduceSub,Nat.reduceAdd];omega) (ag (by simp only [nrm,xdn,reduceIte,Nat.reduceLT,Nat.reduceSub,Nat.reduceAdd,aN];omega) (G0 (fun c'=>?_) (fun c'=>?_)))
   ·simp only [nrm,xdn,reduceIte,Nat.reduceLT,Nat.reduceSub,Nat.reduceAdd,cX] at c'
    have c' : (msl m x2.toNat).refs=0:=c'
    have hL : Gt m x2=(Mem.none,8):=by unfold Gt;rw [if_neg (by omega),if_pos ha,if_pos c']
    rw [hL]
    refine Bf (by simp only [nrm,xdn,reduceIte,Nat.reduceLT,Nat.reduceSub,Nat.reduceAdd,Mem.cds,lca]) ?_
    refine ai d60 [.b true] rfl trivial (by simp only [nrm,xdn,reduceIte,Nat.reduceLT,Nat.reduceSub,Nat.reduceAdd,Mem.cds,Mem.none,G5,G7,lca,G8]) ?_
    refine aj ?_
    simp only [nrm,xdn,reduceIte,Nat.reduceLT,Nat.reduceSub,Nat.reduceAdd]
   ·simp only [nrm,xdn,reduceIte,Nat.reduceLT,Nat.reduceSub,Nat.reduceAdd,cX] at c'
    have c' : (msl m x2.toNat).refs≠0:=c'
    have hL : Gt m x2=(put m x2,0):=by unfold Gt;rw [if_neg (by omega),if_pos ha,if_neg c']
    rw [hL]
    refine ai d62 m.cds rfl trivial (by simp only [nrm,xdn,reduceIte,Nat.reduceLT,Nat.reduceSub,Nat.reduceAdd,fn62]) ?_
    refine ai d68 (put m x2).cds rfl ?_ (by simp only [nrm,xdn,reduceIte,Nat.reduceLT,Nat.reduceSub,Nat.reduceAdd,Mem.cds,lca,fn68]) ?_
    ·simp only [nrm,xdn,reduceIte,Nat.reduceLT,Nat.reduceSub,Nat.reduceAdd,Mem.cds,lca]
     have hh : d68.pre [au m.slots,af m.heads,af m.free,af m.locks,.i m.now,.i x2]:=by
      simp only [d68,mem_of,aA,List.getD_cons_zero,List.getD_cons_succ,CD.aR]
      exact ⟨ha.1,ha.2,hr.1,hr.2,by omega⟩
     exact hh
    generalize put m x2=q
    refine Bf (by simp only [nrm,xdn,reduceIte,Nat.reduceLT,Nat.reduceSub,Nat.reduceAdd,Mem.cds,lca]) ?_
    refine ai d60 [.b true] rfl trivial (by simp only [nrm,xdn,reduceIte,Nat.reduceLT,Nat.reduceSub,Nat.reduceAdd,Mem.cds,lca,Hm]) ?_
    refine aj ?_
    simp only [nrm,xdn,reduceIte,Nat.reduceLT,Nat.reduceSub,Nat.reduceAdd]
 ·simp only [nrm,xdn,reduceIte,Nat.reduceLT,Nat.reduceSub,Nat.reduceAdd,Bool.not_eq_false'] at h1 h2
  have hT : taken m k x=(Mem.none,0,3):=by unfold taken;rw [if_neg (by omega),HP h1,if_neg (by decide),if_pos (by omega)]
  rw [hT]
  refine Fk (by simp only [nrm,xdn,reduceIte,Nat.reduceLT,Nat.reduceSub,Nat.reduceAdd,Mem.cds,lca,decide_true,Bool.not_true,not_true_eq_false,decide_false,beq_self_eq_true]) ?_
  refine Fk (by simp only [nrm,xdn,reduceIte,Nat.reduceLT,Nat.reduceSub,Nat.reduceAdd,Mem.cds,lca,decide_true,Bool.not_true,not_true_eq_false,decide_false,beq_self_eq_true]) ?_
  refine ai d60 [.b true] rfl trivial (by simp only [nrm,xdn,reduceIte,Nat.reduceLT,Nat.reduceSub,Nat.reduceAdd,Mem.cds,Mem.none,G5,G7,lca,G8]) ?_
  refine Fk (by simp only [nrm,xdn,reduceIte,Nat.reduceLT,Nat.reduceSub,Nat.reduceAdd,Mem.cds,lca,decide_true,Bool.not_true,not_true_eq_false,decide_false,beq_self_eq_true]) ?_
  refine G0 (fun a1=>?_) (fun a1=>G0 (fun a1=>?_) (fun a2=>?_))
  ·
   simp only [nrm,xdn,reduceIte,Nat.reduceLT,Nat.reduceSub,Nat.reduceAdd,aN] at a1
   have ha : ¬ (0≤x2∧x2 < (m.slots.length : Int)):=by omega
   have hH : held m x2=(Mem.none,5):=by unfold held;rw [if_neg (by omega),if_neg ha]
   have hL : Gt m x2=(Mem.none,5):=by unfold Gt;rw [if_neg (by omega),if_neg ha]
   rw [hH,hL]
   refine Bf (by simp only [nrm,xdn,reduceIte,Nat.reduceLT,Nat.reduceSub,Nat.reduceAdd,Mem.cds,lca]) ?_
   refine Bf (by simp only [nrm,xdn,reduceIte,Nat.reduceLT,Nat.reduceSub,Nat.reduceAdd,Mem.cds,lca]) ?_
   refine ai d60 [.b true] rfl trivial (by simp only [nrm,xdn,reduceIte,Nat.reduceLT,Nat.reduceSub,Nat.reduceAdd,Mem.cds,Mem.none,G5,G7,lca,G8]) ?_
   refine Bf (by simp only [nrm,xdn,reduceIte,Nat.reduceLT,Nat.reduceSub,Nat.reduceAdd,Mem.cds,lca]) ?_
   refine ai d60 [.b true] rfl trivial (by simp only [nrm,xdn,reduceIte,Nat.reduceLT,Nat.reduceSub,Nat.reduceAdd,Mem.cds,Mem.none,G5,G7,lca,G8]) ?_
   refine aj ?_
   simp only [nrm,xdn,reduceIte,Nat.reduceLT,Nat.reduceSub,Nat.reduceAdd]
  ·
   simp only [nrm,xdn,reduceIte,Nat.reduceLT,Nat.reduceSub,Nat.reduceAdd,aN] at a1
   have ha : ¬ (0≤x2∧x2 < (m.slots.length : Int)):=by omega
   have hH : held m x2=(Mem.none,5):=by unfold held;rw [if_neg (by omega),if_neg ha]
   have hL : Gt m x2=(Mem.none,5):=by unfold Gt;rw [if_neg (by omega),if_neg ha]
   rw [hH,hL]
   refine Bf (by simp only [nrm,xdn,reduceIte,Nat.reduceLT,Nat.reduceSub,Nat.reduceAdd,Mem.cds,lca]) ?_
   refine Bf (by simp only [nrm,xdn,reduceIte,Nat.reduceLT,Nat.reduceSub,Nat.reduceAdd,Mem.cds,lca]) ?_
   refine ai d60 [.b true] rfl trivial (by simp only [nrm,xdn,reduceIte,Nat.reduceLT,Nat.reduceSub,Nat.reduceAdd,Mem.cds,Mem.none,G5,G7,lca,G8]) ?_
   refine Bf (by simp only [nrm,xdn,reduceIte,Nat.reduceLT,Nat.reduceSub,Nat.reduceAdd,Mem.cds,lca]) ?_
   refine ai d60 [.b true] rfl trivial (by simp only [nrm,xdn,reduceIte,Nat.reduceLT,Nat.reduceSub,Nat.reduceAdd,Mem.cds,Mem.none,G5,G7,lca,G8]) ?_
   refine aj ?_
   simp only [nrm,xdn,reduceIte,Nat.reduceLT,Nat.reduceSub,Nat.reduceAdd]
  simp only [nrm,xdn,reduceIte,Nat.reduceLT,Nat.reduceSub,Nat.reduceAdd,aN] at a1 a2
  have ha : 0≤x2∧x2 < (m.slots.length : Int):=by omega
  have hr:=hm.refs ha.1 ha.2
  refine ai d62 m.cds rfl trivial (by simp only [nrm,xdn,reduceIte,Nat.reduceLT,Nat.reduceSub,Nat.reduceAdd,fn62]) ?_
  refine ai d67 ((hold m x2).1.cds ++ [.b (hold m x2).2]) rfl ?_ (by simp only [nrm,xdn,reduceIte,Nat.reduceLT,Nat.reduceSub,Nat.reduceAdd,Mem.cds,lca,fn67]) (G0 (fun c=>?_) (fun c=>?_))
  ·simp only [nrm,xdn,reduceIte,Nat.reduceLT,Nat.reduceSub,Nat.reduceAdd,Mem.cds,lca]
   have hh : d67.pre [au m.slots,af m.heads,af m.free,af m.locks,.i m.now,.i x2]:=by
    simp only [d67,mem_of,aA,List.getD_cons_zero,List.getD_cons_succ,CD.aR]
    exact ⟨ha.1,ha.2,hr.1,hr.2⟩
   exact hh
  ·simp only [nrm,xdn,reduceIte,Nat.reduceLT,Nat.reduceSub,Nat.reduceAdd,Mem.cds,lca,Bool.not_eq_true'] at c
   have hH : held m x2=(Mem.none,8):=by unfold held;rw [if_neg (by omega),if_pos ha,if_neg (by rw [c];decide)]
   rw [hH]
   refine Fk (by simp only [nrm,xdn,reduceIte,Nat.reduceLT,Nat.reduceSub,Nat.reduceAdd,Mem.cds,lca,decide_true,Bool.not_true,not_true_eq_false,decide_false,beq_self_eq_true]) ?_
   refine ai d60 [.b true] rfl trivial (by simp only [nrm,xdn,reduceIte,Nat.reduceLT,Nat.reduceSub,Nat.reduceAdd,Mem.cds,Mem.none,G5,G7,lca,G8]) ?_
   refine Fk (by simp only [nrm,xdn,reduceIte,Nat.reduceLT,Nat.reduceSub,Nat.reduceAdd,Mem.cds,lca,decide_true,Bool.not_true,not_true_eq_false,decide_false,beq_self_eq_true]) ?_
   refine ag (by simp only [nrm,xdn,reduceIte,Nat.reduceLT,Nat.reduceSub,Nat.reduceAdd];omega) (ag (by simp only [nrm,xdn,reduceIte,Nat.reduceLT,Nat.reduceSub,Nat.reduceAdd,aN];omega) (G0 (fun c'=>?_) (fun c'=>?_)))
   ·simp only [nrm,xdn,reduceIte,Nat.reduceLT,Nat.reduceSub,Nat.reduceAdd,cX] at c'
    have c' : (msl m x2.toNat).refs=0:=c'
    have hL : Gt m x2=(Mem.none,8):=by unfold Gt;rw [if_neg (by omega),if_pos ha,if_pos c']
    rw [hL]
    refine Bf (by simp only [nrm,xdn,reduceIte,Nat.reduceLT,Nat.reduceSub,Nat.reduceAdd,Mem.cds,lca]) ?_
    refine ai d60 [.b true] rfl trivial (by simp only [nrm,xdn,reduceIte,Nat.reduceLT,Nat.reduceSub,Nat.reduceAdd,Mem.cds,Mem.none,G5,G7,lca,G8]) ?_
    refine aj ?_
    simp only [nrm,xdn,reduceIte,Nat.reduceLT,Nat.reduceSub,Nat.reduceAdd]
   ·simp only [nrm,xdn,reduceIte,Nat.reduceLT,Nat.reduceSub,Nat.reduceAdd,cX] at c'
    have c' : (msl m x2.toNat).refs≠0:=c'
    have hL : Gt m x2=(put m x2,0):=by unfold Gt;rw [if_neg (by omega),if_pos ha,if_neg c']
    rw [hL]
    refine ai d62 m.cds rfl trivial (by simp only [nrm,xdn,reduceIte,Nat.reduceLT,Nat.reduceSub,Nat.reduceAdd,fn62]) ?_
    refine ai d68 (put m x2).cds rfl ?_ (by simp only [nrm,xdn,reduceIte,Nat.reduceLT,Nat.reduceSub,Nat.reduceAdd,Mem.cds,lca,fn68]) ?_
    ·simp only [nrm,xdn,reduceIte,Nat.reduceLT,Nat.reduceSub,Nat.reduceAdd,Mem.cds,lca]
     have hh : d68.pre [au m.slots,af m.heads,af m.free,af m.locks,.i m.now,.i x2]:=by
      simp only [d68,mem_of,aA,List.getD_cons_zero,List.getD_cons_succ,CD.aR]
      exact ⟨ha.1,ha.2,hr.1,hr.2,by omega⟩
     exact hh
    generalize put m x2=q
    refine Bf (by simp only [nrm,xdn,reduceIte,Nat.reduceLT,Nat.reduceSub,Nat.reduceAdd,Mem.cds,lca]) ?_
    refine ai d60 [.b true] rfl trivial (by simp only [nrm,xdn,reduceIte,Nat.reduceLT,Nat.reduceSub,Nat.reduceAdd,Mem.cds,lca,Hm]) ?_
    refine aj ?_
    simp only [nrm,xdn,reduceIte,Nat.reduceLT,Nat.reduceSub,Nat.reduceAdd]
  ·simp only [nrm,xdn,reduceIte,Nat.reduceLT,Nat.reduceSub,Nat.reduceAdd,Mem.cds,lca,Bool.not_eq_false'] at c
   have hH : held m x2=((hold m x2).1,0):=by unfold held;rw [if_neg (by omega),if_pos ha,if_pos c]
   rw [hH]
   generalize (hold m x2).1=y
   refine Fk (by simp only [nrm,xdn,reduceIte,Nat.reduceLT,Nat.reduceSub,Nat.reduceAdd,Mem.cds,lca,decide_true,Bool.not_true,not_true_eq_false,decide_false,beq_self_eq_true]) ?_
   refine ai d60 [.b true] rfl trivial (by simp only [nrm,xdn,reduceIte,Nat.reduceLT,Nat.reduceSub,Nat.reduceAdd,Mem.cds,lca,Hm]) ?_
   refine Fk (by simp only [nrm,xdn,reduceIte,Nat.reduceLT,Nat.reduceSub,Nat.reduceAdd,Mem.cds,lca,decide_true,Bool.not_true,not_true_eq_false,decide_false,beq_self_eq_true]) ?_
   refine ag (by simp only [nrm,xdn,reduceIte,Nat.reduceLT,Nat.reduceSub,Nat.reduceAdd];omega) (ag (by simp only [nrm,xdn,reduceIte,Nat.reduceLT,Nat.reduceSub,Nat.reduceAdd,aN];omega) (G0 (fun c'=>?_) (fun c'=>?_)))
   ·simp only [nrm,xdn,reduceIte,Nat.reduceLT,Nat.reduceSub,Nat.reduceAdd,cX] at c'
    have c' : (msl m x2.toNat).refs=0:=c'
    have hL : Gt m x2=(Mem.none,8):=by unfold Gt;rw [if_neg (by omega),if_pos ha,if_pos c']
    rw [hL]
    refine Bf (by simp only [nrm,xdn,reduceIte,Nat.reduceLT,Nat.reduceSub,Nat.reduceAdd,Mem.cds,lca]) ?_
    refine ai d60 [.b true] rfl trivial (by simp only [nrm,xdn,reduceIte,Nat.reduceLT,Nat.reduceSub,Nat.reduceAdd,Mem.cds,Mem.none,G5,G7,lca,G8]) ?_
    refine aj ?_
    simp only [nrm,xdn,reduceIte,Nat.reduceLT,Nat.reduceSub,Nat.reduceAdd]
   ·simp only [nrm,xdn,reduceIte,Nat.reduceLT,Nat.reduceSub,Nat.reduceAdd,cX] at c'
    have c' : (msl m x2.toNat).refs≠0:=c'
    have hL : Gt m x2=(put m x2,0):=by unfold Gt;rw [if_neg (by omega),if_pos ha,if_neg c']
    rw [hL]
    refine ai d62 m.cds rfl trivial (by simp only [nrm,xdn,reduceIte,Nat.reduceLT,Nat.reduceSub,Nat.reduceAdd,fn62]) ?_
    refine ai d68 (put m x2).cds rfl ?_ (by simp only [nrm,xdn,reduceIte,Nat.reduceLT,Nat.reduceSub,Nat.reduceAdd,Mem.cds,lca,fn68]) ?_
    ·simp only [nrm,xdn,reduceIte,Nat.reduceLT,Nat.reduceSub,Nat.reduceAdd,Mem.cds,lca]
     have hh : d68.pre [au m.slots,af m.heads,af m.free,af m.locks,.i m.now,.i x2]:=by
      simp only [d68,mem_of,aA,List.getD_cons_zero,List.getD_cons_succ,CD.aR]
      exact ⟨ha.1,ha.2,hr.1,hr.2,by omega⟩
     exact hh
    generalize put m x2=q
    refine Bf (by simp only [nrm,xdn,reduceIte,Nat.reduceLT,Nat.reduceSub,Nat.reduceAdd,Mem.cds,lca]) ?_
    refine ai d60 [.b true] rfl trivial (by simp only [nrm,xdn,reduceIte,Nat.reduceLT,Nat.reduceSub,Nat.reduceAdd,Mem.cds,lca,Hm]) ?_
    refine aj ?_
    simp only [nrm,xdn,reduceIte,Nat.reduceLT,Nat.reduceSub,Nat.reduceAdd]
 ·simp only [nrm,xdn,reduceIte,Nat.reduceLT,Nat.reduceSub,Nat.reduceAdd,Bool.not_eq_false'] at h1 h3
  have hT : taken m k x=(Mem.none,0,3):=by unfold taken;rw [if_neg (by omega),HP h1,if_neg (by decide),if_pos (by omega)]
  rw [hT]
  refine Fk (by simp only [nrm,xdn,reduceIte,Nat.reduceLT,Nat.reduceSub,Nat.reduceAdd,Mem.cds,lca,decide_true,Bool.not_true,not_true_eq_false,decide_false,beq_self_eq_true]) ?_
  refine Fk (by simp only [nrm,xdn,reduceIte,Nat.reduceLT,Nat.reduceSub,Nat.reduceAdd,Mem.cds,lca,decide_true,Bool.not_true,not_true_eq_false,decide_false,beq_self_eq_true]) ?_
  refine ai d60 [.b true] rfl trivial (by simp only [nrm,xdn,reduceIte,Nat.reduceLT,Nat.reduceSub,Nat.reduceAdd,Mem.cds,Mem.none,G5,G7,lca,G8]) ?_
  refine Fk (by simp only [nrm,xdn,reduceIte,Nat.reduceLT,Nat.reduceSub,Nat.reduceAdd,Mem.cds,lca,decide_true,Bool.not_true,not_true_eq_false,decide_false,beq_self_eq_true]) ?_
  refine G0 (fun a1=>?_) (fun a1=>G0 (fun a1=>?_) (fun a2=>?_))
  ·
   simp only [nrm,xdn,reduceIte,Nat.reduceLT,Nat.reduceSub,Nat.reduceAdd,aN] at a1
   have ha : ¬ (0≤x2∧x2 < (m.slots.length : Int)):=by omega
   have hH : held m x2=(Mem.none,5):=by unfold held;rw [if_neg (by omega),if_neg ha]
   have hL : Gt m x2=(Mem.none,5):=by unfold Gt;rw [if_neg (by omega),if_neg ha]
   rw [hH,hL]
   refine Bf (by simp only [nrm,xdn,reduceIte,Nat.reduceLT,Nat.reduceSub,Nat.reduceAdd,Mem.cds,lca]) ?_
   refine Bf (by simp only [nrm,xdn,reduceIte,Nat.reduceLT,Nat.reduceSub,Nat.reduceAdd,Mem.cds,lca]) ?_
   refine ai d60 [.b true] rfl trivial (by simp only [nrm,xdn,reduceIte,Nat.reduceLT,Nat.reduceSub,Nat.reduceAdd,Mem.cds,Mem.none,G5,G7,lca,G8]) ?_
   refine Bf (by simp only [nrm,xdn,reduceIte,Nat.reduceLT,Nat.reduceSub,Nat.reduceAdd,Mem.cds,lca]) ?_
   refine ai d60 [.b true] rfl trivial (by simp only [nrm,xdn,reduceIte,Nat.reduceLT,Nat.reduceSub,Nat.reduceAdd,Mem.cds,Mem.none,G5,G7,lca,G8]) ?_
   refine aj ?_
   simp only [nrm,xdn,reduceIte,Nat.reduceLT,Nat.reduceSub,Nat.reduceAdd]
  ·
   simp only [nrm,xdn,reduceIte,Nat.reduceLT,Nat.reduceSub,Nat.reduceAdd,aN] at a1
   have ha : ¬ (0≤x2∧x2 < (m.slots.length : Int)):=by omega
   have hH : held m x2=(Mem.none,5):=by unfold held;rw [if_neg (by omega),if_neg ha]
   have hL : Gt m x2=(Mem.none,5):=by unfold Gt;rw [if_neg (by omega),if_neg ha]
   rw [hH,hL]
   refine Bf (by simp only [nrm,xdn,reduceIte,Nat.reduceLT,Nat.reduceSub,Nat.reduceAdd,Mem.cds,lca]) ?_
   refine Bf (by simp only [nrm,xdn,reduceIte,Nat.reduceLT,Nat.reduceSub,Nat.reduceAdd,Mem.cds,lca]) ?_
   refine ai d60 [.b true] rfl trivial (by simp only [nrm,xdn,reduceIte,Nat.reduceLT,Nat.reduceSub,Nat.reduceAdd,Mem.cds,Mem.none,G5,G7,lca,G8]) ?_
   refine Bf (by simp only [nrm,xdn,reduceIte,Nat.reduceLT,Nat.reduceSub,Nat.reduceAdd,Mem.cds,lca]) ?_
   refine ai d60 [.b true] rfl trivial (by simp only [nrm,xdn,reduceIte,Nat.reduceLT,Nat.reduceSub,Nat.reduceAdd,Mem.cds,Mem.none,G5,G7,lca,G8]) ?_
   refine aj ?_
   simp only [nrm,xdn,reduceIte,Nat.reduceLT,Nat.reduceSub,Nat.reduceAdd]
  simp only [nrm,xdn,reduceIte,Nat.reduceLT,Nat.reduceSub,Nat.reduceAdd,aN] at a1 a2
  have ha : 0≤x2∧x2 < (m.slots.length : Int):=by omega
  have hr:=hm.refs ha.1 ha.2
  refine ai d62 m.cds rfl trivial (by simp only [nrm,xdn,reduceIte,Nat.reduceLT,Nat.reduceSub,Nat.reduceAdd,fn62]) ?_
  refine ai d67 ((hold m x2).1.cds ++ [.b (hold m x2).2]) rfl ?_ (by simp only [nrm,xdn,reduceIte,Nat.reduceLT,Nat.reduceSub,Nat.reduceAdd,Mem.cds,lca,fn67]) (G0 (fun c=>?_) (fun c=>?_))
  ·simp only [nrm,xdn,reduceIte,Nat.reduceLT,Nat.reduceSub,Nat.reduceAdd,Mem.cds,lca]
   have hh : d67.pre [au m.slots,af m.heads,af m.free,af m.locks,.i m.now,.i x2]:=by
    simp only [d67,mem_of,aA,List.getD_cons_zero,List.getD_cons_succ,CD.aR]
    exact ⟨ha.1,ha.2,hr.1,hr.2⟩
   exact hh
  ·simp only [nrm,xdn,reduceIte,Nat.reduceLT,Nat.reduceSub,Nat.reduceAdd,Mem.cds,lca,Bool.not_eq_true'] at c
   have hH : held m x2=(Mem.none,8):=by unfold held;rw [if_neg (by omega),if_pos ha,if_neg (by rw [c];decide)]
   rw [hH]
   refine Fk (by simp only [nrm,xdn,reduceIte,Nat.reduceLT,Nat.reduceSub,Nat.reduceAdd,Mem.cds,lca,decide_true,Bool.not_true,not_true_eq_false,decide_false,beq_self_eq_true]) ?_
   refine ai d60 [.b true] rfl trivial (by simp only [nrm,xdn,reduceIte,Nat.reduceLT,Nat.reduceSub,Nat.reduceAdd,Mem.cds,Mem.none,G5,G7,lca,G8]) ?_
   refine Fk (by simp only [nrm,xdn,reduceIte,Nat.reduceLT,Nat.reduceSub,Nat.reduceAdd,Mem.cds,lca,decide_true,Bool.not_true,not_true_eq_false,decide_false,beq_self_eq_true]) ?_
   refine ag (by simp only [nrm,xdn,reduceIte,Nat.reduceLT,Nat.reduceSub,Nat.reduceAdd];omega) (ag (by simp only [nrm,xdn,reduceIte,Nat.reduceLT,Nat.reduceSub,Nat.reduceAdd,aN];omega) (G0 (fun c'=>?_) (fun c'=>?_)))
   ·simp only [nrm,xdn,reduceIte,Nat.reduceLT,Nat.reduceSub,Nat.reduceAdd,cX] at c'
    have c' : (msl m x2.toNat).refs=0:=c'
    have hL : Gt m x2=(Mem.none,8):=by unfold Gt;rw [if_neg (by omega),if_pos ha,if_pos c']
    rw [hL]
    refine Bf (by simp only [nrm,xdn,reduceIte,Nat.reduceLT,Nat.reduceSub,Nat.reduceAdd,Mem.cds,lca]) ?_
    refine ai d60 [.b true] rfl trivial (by simp only [nrm,xdn,reduceIte,Nat.reduceLT,Nat.reduceSub,Nat.reduceAdd,Mem.cds,Mem.none,G5,G7,lca,G8]) ?_
    refine aj ?_
    simp only [nrm,xdn,reduceIte,Nat.reduceLT,Nat.reduceSub,Nat.reduceAdd]
   ·simp only [nrm,xdn,reduceIte,Nat.reduceLT,Nat.reduceSub,Nat.reduceAdd,cX] at c'
    have c' : (msl m x2.toNat).refs≠0:=c'
    have hL : Gt m x2=(put m x2,0):=by unfold Gt;rw [if_neg (by omega),if_pos ha,if_neg c']
    rw [hL]
    refine ai d62 m.cds rfl trivial (by simp only [nrm,xdn,reduceIte,Nat.reduceLT,Nat.reduceSub,Nat.reduceAdd,fn62]) ?_
    refine ai d68 (put m x2).cds rfl ?_ (by simp only [nrm,xdn,reduceIte,Nat.reduceLT,Nat.reduceSub,Nat.reduceAdd,Mem.cds,lca,fn68]) ?_
    ·simp only [nrm,xdn,reduceIte,Nat.reduceLT,Nat.reduceSub,Nat.reduceAdd,Mem.cds,lca]
     have hh : d68.pre [au m.slots,af m.heads,af m.free,af m.locks,.i m.now,.i x2]:=by
      simp only [d68,mem_of,aA,List.getD_cons_zero,List.getD_cons_succ,CD.aR]
      exact ⟨ha.1,ha.2,hr.1,hr.2,by omega⟩
     exact hh
    generalize put m x2=q
    refine Bf (by simp only [nrm,xdn,reduceIte,Nat.reduceLT,Nat.reduceSub,Nat.reduceAdd,Mem.cds,lca]) ?_
    refine ai d60 [.b true] rfl trivial (by simp only [nrm,xdn,reduceIte,Nat.reduceLT,Nat.reduceSub,Nat.reduceAdd,Mem.cds,lca,Hm]) ?_
    refine aj ?_
    simp only [nrm,xdn,reduceIte,Nat.reduceLT,Nat.reduceSub,Nat.reduceAdd]
  ·simp only [nrm,xdn,reduceIte,Nat.reduceLT,Nat.reduceSub,Nat.reduceAdd,Mem.cds,lca,Bool.not_eq_false'] at c
   have hH : held m x2=((hold m x2).1,0):=by unfold held;rw [if_neg (by omega),if_pos ha,if_pos c]
   rw [hH]
   generalize (hold m x2).1=y
   refine Fk (by simp only [nrm,xdn,reduceIte,Nat.reduceLT,Nat.reduceSub,Nat.reduceAdd,Mem.cds,lca,decide_true,Bool.not_true,not_true_eq_false,decide_false,beq_self_eq_true]) ?_
   refine ai d60 [.b true] rfl trivial (by simp only [nrm,xdn,reduceIte,Nat.reduceLT,Nat.reduceSub,Nat.reduceAdd,Mem.cds,lca,Hm]) ?_
   refine Fk (by simp only [nrm,xdn,reduceIte,Nat.reduceLT,Nat.reduceSub,Nat.reduceAdd,Mem.cds,lca,decide_true,Bool.not_true,not_true_eq_false,decide_false,beq_self_eq_true]) ?_
   refine ag (by simp only [nrm,xdn,reduceIte,Nat.reduceLT,Nat.reduceSub,Nat.reduceAdd];omega) (ag (by simp only [nrm,xdn,reduceIte,Nat.reduceLT,Nat.reduceSub,Nat.reduceAdd,aN];omega) (G0 (fun c'=>?_) (fun c'=>?_)))
   ·simp only [nrm,xdn,reduceIte,Nat.reduceLT,Nat.reduceSub,Nat.reduceAdd,cX] at c'
    have c' : (msl m x2.toNat).refs=0:=c'
    have hL : Gt m x2=(Mem.none,8):=by unfold Gt;rw [if_neg (by omega),if_pos ha,if_pos c']
    rw [hL]
    refine Bf (by simp only [nrm,xdn,reduceIte,Nat.reduceLT,Nat.reduceSub,Nat.reduceAdd,Mem.cds,lca]) ?_
    refine ai d60 [.b true] rfl trivial (by simp only [nrm,xdn,reduceIte,Nat.reduceLT,Nat.reduceSub,Nat.reduceAdd,Mem.cds,Mem.none,G5,G7,lca,G8]) ?_
    refine aj ?_
    simp only [nrm,xdn,reduceIte,Nat.reduceLT,Nat.reduceSub,Nat.reduceAdd]
   ·simp only [nrm,xdn,reduceIte,Nat.reduceLT,Nat.reduceSub,Nat.reduceAdd,cX] at c'
    have c' : (msl m x2.toNat).refs≠0:=c'
    have hL : Gt m x2=(put m x2,0):=by unfold Gt;rw [if_neg (by omega),if_pos ha,if_neg c']
    rw [hL]
    refine ai d62 m.cds rfl trivial (by simp only [nrm,xdn,reduceIte,Nat.reduceLT,Nat.reduceSub,Nat.reduceAdd,fn62]) ?_
    refine ai d68 (put m x2).cds rfl ?_ (by simp only [nrm,xdn,reduceIte,Nat.reduceLT,Nat.reduceSub,Nat.reduceAdd,Mem.cds,lca,fn68]) ?_
    ·simp only [nrm,xdn,reduceIte,Nat.reduceLT,Nat.reduceSub,Nat.reduceAdd,Mem.cds,lca]
     have hh : d68.pre [au m.slots,af m.heads,af m.free,af m.locks,.i m.now,.i x2]:=by
      simp only [d68,mem_of,aA,List.getD_cons_zero,List.getD_cons_succ,CD.aR]
      exact ⟨ha.1,ha.2,hr.1,hr.2,by omega⟩
     exact hh
    generalize put m x2=q
    refine Bf (by simp only [nrm,xdn,reduceIte,Nat.reduceLT,Nat.reduceSub,Nat.reduceAdd,Mem.cds,lca]) ?_
    refine ai d60 [.b true] rfl trivial (by simp only [nrm,xdn,reduceIte,Nat.reduceLT,Nat.reduceSub,Nat.reduceAdd,Mem.cds,lca,Hm]) ?_
    refine aj ?_
    simp only [nrm,xdn,reduceIte,Nat.reduceLT,Nat.reduceSub,Nat.reduceAdd]
 simp only [nrm,xdn,reduceIte,Nat.reduceLT,Nat.reduceSub,Nat.reduceAdd,Bool.not_eq_false'] at h1 h2 h3
 refine ai d66 ((take m k x).1.cds ++ [.i (take m k x).2.1,.b (decide ((take m k x).2.2=0))]) rfl ?_ (by simp only [nrm,xdn,reduceIte,Nat.reduceLT,Nat.reduceSub,Nat.reduceAdd,Mem.cds,lca,fn66]) (G0 (fun h4=>?_) (fun h4=>?_))
 ·simp only [nrm,xdn,reduceIte,Nat.reduceLT,Nat.reduceSub,Nat.reduceAdd,Mem.cds,lca]
  have hh : d66.pre [au m.slots,af m.heads,af m.free,af m.locks,.i m.now,.i k.a,.i k.b,.i x]:=by
   simp only [d66,mem_of,aA]
   exact ⟨by omega,hlast⟩
  exact hh
 ·simp only [nrm,xdn,reduceIte,Nat.reduceLT,Nat.reduceSub,Nat.reduceAdd,Mem.cds,lca,Bool.not_eq_true'] at h4
  have ht : take m k x=(m,0,7):=by
   unfold take at h4 ⊢
   by_cases h0 : m.free.length=0
   ·rw [if_pos h0]
   ·rw [if_neg h0] at h4;exact absurd rfl h4
  have hT : taken m k x=(Mem.none,0,7):=by unfold taken;rw [if_neg (by omega),HP h1,if_neg (by decide),if_neg (by omega),ht,if_pos (show (7 : Int)≠0 by decide)]
  rw [hT,ht]
  refine Fk (by simp only [nrm,xdn,reduceIte,Nat.reduceLT,Nat.reduceSub,Nat.reduceAdd,Mem.cds,lca,decide_true,Bool.not_true,not_true_eq_false,decide_false,beq_self_eq_true]) ?_
  refine Fk (by simp only [nrm,xdn,reduceIte,Nat.reduceLT,Nat.reduceSub,Nat.reduceAdd,Mem.cds,lca,decide_true,Bool.not_true,not_true_eq_false,decide_false,beq_self_eq_true]) ?_
  refine ai d60 [.b true] rfl trivial (by simp only [nrm,xdn,reduceIte,Nat.reduceLT,Nat.reduceSub,Nat.reduceAdd,Mem.cds,Mem.none,G5,G7,lca,G8]) ?_
  refine Fk (by simp only [nrm,xdn,reduceIte,Nat.reduceLT,Nat.reduceSub,Nat.reduceAdd,Mem.cds,lca,decide_true,Bool.not_true,not_true_eq_false,decide_false,beq_self_eq_true]) ?_
  refine G0 (fun a1=>?_) (fun a1=>G0 (fun a1=>?_) (fun a2=>?_))
  ·
   simp only [nrm,xdn,reduceIte,Nat.reduceLT,Nat.reduceSub,Nat.reduceAdd,aN] at a1
   have ha : ¬ (0≤x2∧x2 < (m.slots.length : Int)):=by omega
   have hH : held m x2=(Mem.none,5):=by unfold held;rw [if_neg (by omega),if_neg ha]
   have hL : Gt m x2=(Mem.none,5):=by unfold Gt;rw [if_neg (by omega),if_neg ha]
   rw [hH,hL]
   refine Bf (by simp only [nrm,xdn,reduceIte,Nat.reduceLT,Nat.reduceSub,Nat.reduceAdd,Mem.cds,lca]) ?_
   refine Bf (by simp only [nrm,xdn,reduceIte,Nat.reduceLT,Nat.reduceSub,Nat.reduceAdd,Mem.cds,lca]) ?_
   refine ai d60 [.b true] rfl trivial (by simp only [nrm,xdn,reduceIte,Nat.reduceLT,Nat.reduceSub,Nat.reduceAdd,Mem.cds,Mem.none,G5,G7,lca,G8]) ?_
   refine Bf (by simp only [nrm,xdn,reduceIte,Nat.reduceLT,Nat.reduceSub,Nat.reduceAdd,Mem.cds,lca]) ?_
   refine ai d60 [.b true] rfl trivial (by simp only [nrm,xdn,reduceIte,Nat.reduceLT,Nat.reduceSub,Nat.reduceAdd,Mem.cds,Mem.none,G5,G7,lca,G8]) ?_
   refine aj ?_
   simp only [nrm,xdn,reduceIte,Nat.reduceLT,Nat.reduceSub,Nat.reduceAdd]
  ·
   simp only [nrm,xdn,reduceIte,Nat.reduceLT,Nat.reduceSub,Nat.reduceAdd,aN] at a1
   have ha : ¬ (0≤x2∧x2 < (m.slots.length : Int)):=by omega
   have hH : held m x2=(Mem.none,5):=by unfold held;rw [if_neg (by omega),if_neg ha]
   have hL : Gt m x2=(Mem.none,5):=by unfold Gt;rw [if_neg (by omega),if_neg ha]
   rw [hH,hL]
   refine Bf (by simp only [nrm,xdn,reduceIte,Nat.reduceLT,Nat.reduceSub,Nat.reduceAdd,Mem.cds,lca]) ?_
   refine Bf (by simp only [nrm,xdn,reduceIte,Nat.reduceLT,Nat.reduceSub,Nat.reduceAdd,Mem.cds,lca]) ?_
   refine ai d60 [.b true] rfl trivial (by simp only [nrm,xdn,reduceIte,Nat.reduceLT,Nat.reduceSub,Nat.reduceAdd,Mem.cds,Mem.none,G5,G7,lca,G8]) ?_
   refine Bf (by simp only [nrm,xdn,reduceIte,Nat.reduceLT,Nat.reduceSub,Nat.reduceAdd,Mem.cds,lca]) ?_
   refine ai d60 [.b true] rfl trivial (by simp only [nrm,xdn,reduceIte,Nat.reduceLT,Nat.reduceSub,Nat.reduceAdd,Mem.cds,Mem.none,G5,G7,lca,G8]) ?_
   refine aj ?_
   simp only [nrm,xdn,reduceIte,Nat.reduceLT,Nat.reduceSub,Nat.reduceAdd]
  simp only [nrm,xdn,reduceIte,Nat.reduceLT,Nat.reduceSub,Nat.reduceAdd,aN] at a1 a2
  have ha : 0≤x2∧x2 < (m.slots.length : Int):=by omega
  have hr:=hm.refs ha.1 ha.2
  refine ai d62 m.cds rfl trivial (by simp only [nrm,xdn,reduceIte,Nat.reduceLT,Nat.reduceSub,Nat.reduceAdd,fn62]) ?_
  refine ai d67 ((hold m x2).1.cds ++ [.b (hold m x2).2]) rfl ?_ (by simp only [nrm,xdn,reduceIte,Nat.reduceLT,Nat.reduceSub,Nat.reduceAdd,Mem.cds,lca,fn67]) (G0 (fun c=>?_) (fun c=>?_))
  ·simp only [nrm,xdn,reduceIte,Nat.reduceLT,Nat.reduceSub,Nat.reduceAdd,Mem.cds,lca]
   have hh : d67.pre [au m.slots,af m.heads,af m.free,af m.locks,.i m.now,.i x2]:=by
    simp only [d67,mem_of,aA,List.getD_cons_zero,List.getD_cons_succ,CD.aR]
    exact ⟨ha.1,ha.2,hr.1,hr.2⟩
   exact hh
  ·simp only [nrm,xdn,reduceIte,Nat.reduceLT,Nat.reduceSub,Nat.reduceAdd,Mem.cds,lca,Bool.not_eq_true'] at c
   have hH : held m x2=(Mem.none,8):=by unfold held;rw [if_neg (by omega),if_pos ha,if_neg (by rw [c];decide)]
   rw [hH]
   refine Fk (by simp only [nrm,xdn,reduceIte,Nat.reduceLT,Nat.reduceSub,Nat.reduceAdd,Mem.cds,lca,decide_true,Bool.not_true,not_true_eq_false,decide_false,beq_self_eq_true]) ?_
   refine ai d60 [.b true] rfl trivial (by simp only [nrm,xdn,reduceIte,Nat.reduceLT,Nat.reduceSub,Nat.reduceAdd,Mem.cds,Mem.none,G5,G7,lca,G8]) ?_
   refine Fk (by simp only [nrm,xdn,reduceIte,Nat.reduceLT,Nat.reduceSub,Nat.reduceAdd,Mem.cds,lca,decide_true,Bool.not_true,not_true_eq_false,decide_false,beq_self_eq_true]) ?_
   refine ag (by simp only [nrm,xdn,reduceIte,Nat.reduceLT,Nat.reduceSub,Nat.reduceAdd];omega) (ag (by simp only [nrm,xdn,reduceIte,Nat.reduceLT,Nat.reduceSub,Nat.reduceAdd,aN];omega) (G0 (fun c'=>?_) (fun c'=>?_)))
   ·simp only [nrm,xdn,reduceIte,Nat.reduceLT,Nat.reduceSub,Nat.reduceAdd,cX] at c'
    have c' : (msl m x2.toNat).refs=0:=c'
    have hL : Gt m x2=(Mem.none,8):=by unfold Gt;rw [if_neg (by omega),if_pos ha,if_pos c']
    rw [hL]
    refine Bf (by simp only [nrm,xdn,reduceIte,Nat.reduceLT,Nat.reduceSub,Nat.reduceAdd,Mem.cds,lca]) ?_
    refine ai d60 [.b true] rfl trivial (by simp only [nrm,xdn,reduceIte,Nat.reduceLT,Nat.reduceSub,Nat.reduceAdd,Mem.cds,Mem.none,G5,G7,lca,G8]) ?_
    refine aj ?_
    simp only [nrm,xdn,reduceIte,Nat.reduceLT,Nat.reduceSub,Nat.reduceAdd]
   ·simp only [nrm,xdn,reduceIte,Nat.reduceLT,Nat.reduceSub,Nat.reduceAdd,cX] at c'
    have c' : (msl m x2.toNat).refs≠0:=c'
    have hL : Gt m x2=(put m x2,0):=by unfold Gt;rw [if_neg (by omega),if_pos ha,if_neg c']
    rw [hL]
    refine ai d62 m.cds rfl trivial (by simp only [nrm,xdn,reduceIte,Nat.reduceLT,Nat.reduceSub,Nat.reduceAdd,fn62]) ?_
    refine ai d68 (put m x2).cds rfl ?_ (by simp only [nrm,xdn,reduceIte,Nat.reduceLT,Nat.reduceSub,Nat.reduceAdd,Mem.cds,lca,fn68]) ?_
    ·simp only [nrm,xdn,reduceIte,Nat.reduceLT,Nat.reduceSub,Nat.reduceAdd,Mem.cds,lca]
     have hh : d68.pre [au m.slots,af m.heads,af m.free,af m.locks,.i m.now,.i x2]:=by
      simp only [d68,mem_of,aA,List.getD_cons_zero,List.getD_cons_succ,CD.aR]
      exact ⟨ha.1,ha.2,hr.1,hr.2,by omega⟩
     exact hh
    generalize put m x2=q
    refine Bf (by simp only [nrm,xdn,reduceIte,Nat.reduceLT,Nat.reduceSub,Nat.reduceAdd,Mem.cds,lca]) ?_
    refine ai d60 [.b true] rfl trivial (by simp only [nrm,xdn,reduceIte,Nat.reduceLT,Nat.reduceSub,Nat.reduceAdd,Mem.cds,lca,Hm]) ?_
    refine aj ?_
    simp only [nrm,xdn,reduceIte,Nat.reduceLT,Nat.reduceSub,Nat.reduceAdd]
  ·simp only [nrm,xdn,reduceIte,Nat.reduceLT,Nat.reduceSub,Nat.reduceAdd,Mem.cds,lca,Bool.not_eq_false'] at c
   have hH : held m x2=((hold m x2).1,0):=by unfold held;rw [if_neg (by omega),if_pos ha,if_pos c]
   rw [hH]
   generalize (hold m x2).1=y
   refine Fk (by simp only [nrm,xdn,reduceIte,Nat.reduceLT,Nat.reduceSub,Nat.reduceAdd,Mem.cds,lca,decide_true,Bool.not_true,not_true_eq_false,decide_false,beq_self_eq_true]) ?_
   refine ai d60 [.b true] rfl trivial (by simp only [nrm,xdn,reduceIte,Nat.reduceLT,Nat.reduceSub,Nat.reduceAdd,Mem.cds,lca,Hm]) ?_
   refine Fk (by simp only [nrm,xdn,reduceIte,Nat.reduceLT,Nat.reduceSub,Nat.reduceAdd,Mem.cds,lca,decide_true,Bool.not_true,not_true_eq_false,decide_false,beq_self_eq_true]) ?_
   refine ag (by simp only [nrm,xdn,reduceIte,Nat.reduceLT,Nat.reduceSub,Nat.reduceAdd];omega) (ag (by simp only [nrm,xdn,reduceIte,Nat.reduceLT,Nat.reduceSub,Nat.reduceAdd,aN];omega) (G0 (fun c'=>?_) (fun c'=>?_)))
   ·simp only [nrm,xdn,reduceIte,Nat.reduceLT,Nat.reduceSub,Nat.reduceAdd,cX] at c'
    have c' : (msl m x2.toNat).refs=0:=c'
    have hL : Gt m x2=(Mem.none,8):=by unfold Gt;rw [if_neg (by omega),if_pos ha,if_pos c']
    rw [hL]
    refine Bf (by simp only [nrm,xdn,reduceIte,Nat.reduceLT,Nat.reduceSub,Nat.reduceAdd,Mem.cds,lca]) ?_
    refine ai d60 [.b true] rfl trivial (by simp only [nrm,xdn,reduceIte,Nat.reduceLT,Nat.reduceSub,Nat.reduceAdd,Mem.cds,Mem.none,G5,G7,lca,G8]) ?_
    refine aj ?_
    simp only [nrm,xdn,reduceIte,Nat.reduceLT,Nat.reduceSub,Nat.reduceAdd]
   ·simp only [nrm,xdn,reduceIte,Nat.reduceLT,Nat.reduceSub,Nat.reduceAdd,cX] at c'
    have c' : (msl m x2.toNat).refs≠0:=c'
    have hL : Gt m x2=(put m x2,0):=by unfold Gt;rw [if_neg (by omega),if_pos ha,if_neg c']
    rw [hL]
    refine ai d62 m.cds rfl trivial (by simp only [nrm,xdn,reduceIte,Nat.reduceLT,Nat.reduceSub,Nat.reduceAdd,fn62]) ?_
    refine ai d68 (put m x2).cds rfl ?_ (by simp only [nrm,xdn,reduceIte,Nat.reduceLT,Nat.reduceSub,Nat.reduceAdd,Mem.cds,lca,fn68]) ?_
    ·simp only [nrm,xdn,reduceIte,Nat.reduceLT,Nat.reduceSub,Nat.reduceAdd,Mem.cds,lca]
     have hh : d68.pre [au m.slots,af m.heads,af m.free,af m.locks,.i m.now,.i x2]:=by
      simp only [d68,mem_of,aA,List.getD_cons_zero,List.getD_cons_succ,CD.aR]
      exact ⟨ha.1,ha.2,hr.1,hr.2,by omega⟩
     exact hh
    generalize put m x2=q
    refine Bf (by simp only [nrm,xdn,reduceIte,Nat.reduceLT,Nat.reduceSub,Nat.reduceAdd,Mem.cds,lca]) ?_
    refine ai d60 [.b true] rfl trivial (by simp only [nrm,xdn,reduceIte,Nat.reduceLT,Nat.reduceSub,Nat.reduceAdd,Mem.cds,lca,Hm]) ?_
    refine aj ?_
    simp only [nrm,xdn,reduceIte,Nat.reduceLT,Nat.reduceSub,Nat.reduceAdd]
 ·simp only [nrm,xdn,reduceIte,Nat.reduceLT,Nat.reduceSub,Nat.reduceAdd,Mem.cds,lca,Bool.not_eq_false'] at h4
  have hT : taken m k x=((take m k x).1,(take m k x).2.1,0):=by unfold taken;rw [if_neg (by omega),HP h1,if_neg (by decide),if_neg (by omega),if_neg (by omega)]
  rw [hT]
  generalize (take m k x).1=q
  refine Fk (by simp only [nrm,xdn,reduceIte,Nat.reduceLT,Nat.reduceSub,Nat.reduceAdd,Mem.cds,lca,decide_true,Bool.not_true,not_true_eq_false,decide_false,beq_self_eq_true]) ?_
  refine Fk (by simp only [nrm,xdn,reduceIte,Nat.reduceLT,Nat.reduceSub,Nat.reduceAdd,Mem.cds,lca,decide_true,Bool.not_true,not_true_eq_false,decide_false,beq_self_eq_true]) ?_
  refine ai d60 [.b true] rfl trivial (by simp only [nrm,xdn,reduceIte,Nat.reduceLT,Nat.reduceSub,Nat.reduceAdd,Mem.cds,lca,Hm]) ?_
  refine Fk (by simp only [nrm,xdn,reduceIte,Nat.reduceLT,Nat.reduceSub,Nat.reduceAdd,Mem.cds,lca,decide_true,Bool.not_true,not_true_eq_false,decide_false,beq_self_eq_true]) ?_
  refine G0 (fun a1=>?_) (fun a1=>G0 (fun a1=>?_) (fun a2=>?_))
  ·
   simp only [nrm,xdn,reduceIte,Nat.reduceLT,Nat.reduceSub,Nat.reduceAdd,aN] at a1
   have ha : ¬ (0≤x2∧x2 < (m.slots.length : Int)):=by omega
   have hH : held m x2=(Mem.none,5):=by unfold held;rw [if_neg (by omega),if_neg ha]
   have hL : Gt m x2=(Mem.none,5):=by unfold Gt;rw [if_neg (by omega),if_neg ha]
   rw [hH,hL]
   refine Bf (by simp only [nrm,xdn,reduceIte,Nat.reduceLT,Nat.reduceSub,Nat.reduceAdd,Mem.cds,lca]) ?_
   refine Bf (by simp only [nrm,xdn,reduceIte,Nat.reduceLT,Nat.reduceSub,Nat.reduceAdd,Mem.cds,lca]) ?_
   refine ai d60 [.b true] rfl trivial (by simp only [nrm,xdn,reduceIte,Nat.reduceLT,Nat.reduceSub,Nat.reduceAdd,Mem.cds,Mem.none,G5,G7,lca,G8]) ?_
   refine Bf (by simp only [nrm,xdn,reduceIte,Nat.reduceLT,Nat.reduceSub,Nat.reduceAdd,Mem.cds,lca]) ?_
   refine ai d60 [.b true] rfl trivial (by simp only [nrm,xdn,reduceIte,Nat.reduceLT,Nat.reduceSub,Nat.reduceAdd,Mem.cds,Mem.none,G5,G7,lca,G8]) ?_
   refine aj ?_
   simp only [nrm,xdn,reduceIte,Nat.reduceLT,Nat.reduceSub,Nat.reduceAdd]
  ·
   simp only [nrm,xdn,reduceIte,Nat.reduceLT,Nat.reduceSub,Nat.reduceAdd,aN] at a1
   have ha : ¬ (0≤x2∧x2 < (m.slots.length : Int)):=by omega
   have hH : held m x2=(Mem.none,5):=by unfold held;rw [if_neg (by omega),if_neg ha]
   have hL : Gt m x2=(Mem.none,5):=by unfold Gt;rw [if_neg (by omega),if_neg ha]
   rw [hH,hL]
   refine Bf (by simp only [nrm,xdn,reduceIte,Nat.reduceLT,Nat.reduceSub,Nat.reduceAdd,Mem.cds,lca]) ?_
   refine Bf (by simp only [nrm,xdn,reduceIte,Nat.reduceLT,Nat.reduceSub,Nat.reduceAdd,Mem.cds,lca]) ?_
   refine ai d60 [.b true] rfl trivial (by simp only [nrm,xdn,reduceIte,Nat.reduceLT,Nat.reduceSub,Nat.reduceAdd,Mem.cds,Mem.none,G5,G7,lca,G8]) ?_
   refine Bf (by simp only [nrm,xdn,reduceIte,Nat.reduceLT,Nat.reduceSub,Nat.reduceAdd,Mem.cds,lca]) ?_
   refine ai d60 [.b true] rfl trivial (by simp only [nrm,xdn,reduceIte,Nat.reduceLT,Nat.reduceSub,Nat.reduceAdd,Mem.cds,Mem.none,G5,G7,lca,G8]) ?_
   refine aj ?_
   simp only [nrm,xdn,reduceIte,Nat.reduceLT,Nat.reduceSub,Nat.reduceAdd]
  simp only [nrm,xdn,reduceIte,Nat.reduceLT,Nat.reduceSub,Nat.reduceAdd,aN] at a1 a2
  have ha : 0≤x2∧x2 < (m.slots.length : Int):=by omega
  have hr:=hm.refs ha.1 ha.2
  refine ai d62 m.cds rfl trivial (by simp only [nrm,xdn,reduceIte,Nat.reduceLT,Nat.reduceSub,Nat.reduceAdd,fn62]) ?_
  refine ai d67 ((hold m x2).1.cds ++ [.b (hold m x2).2]) rfl ?_ (by simp only [nrm,xdn,reduceIte,Nat.reduceLT,Nat.reduceSub,Nat.reduceAdd,Mem.cds,lca,fn67]) (G0 (fun c=>?_) (fun c=>?_))
  ·simp only [nrm,xdn,reduceIte,Nat.reduceLT,Nat.reduceSub,Nat.reduceAdd,Mem.cds,lca]
   have hh : d67.pre [au m.slots,af m.heads,af m.free,af m.locks,.i m.now,.i x2]:=by
    simp only [d67,mem_of,aA,List.getD_cons_zero,List.getD_cons_succ,CD.aR]
    exact ⟨ha.1,ha.2,hr.1,hr.2⟩
   exact hh
  ·simp only [nrm,xdn,reduceIte,Nat.reduceLT,Nat.reduceSub,Nat.reduceAdd,Mem.cds,lca,Bool.not_eq_true'] at c
   have hH : held m x2=(Mem.none,8):=by unfold held;rw [if_neg (by omega),if_pos ha,if_neg (by rw [c];decide)]
   rw [hH]
   refine Fk (by simp only [nrm,xdn,reduceIte,Nat.reduceLT,Nat.reduceSub,Nat.reduceAdd,Mem.cds,lca,decide_true,Bool.not_true,not_true_eq_false,decide_false,beq_self_eq_true]) ?_
   refine ai d60 [.b true] rfl trivial (by simp only [nrm,xdn,reduceIte,Nat.reduceLT,Nat.reduceSub,Nat.reduceAdd,Mem.cds,Mem.none,G5,G7,lca,G8]) ?_
   refine Fk (by simp only [nrm,xdn,reduceIte,Nat.reduceLT,Nat.reduceSub,Nat.reduceAdd,Mem.cds,lca,decide_true,Bool.not_true,not_true_eq_false,decide_false,beq_self_eq_true]) ?_
   refine ag (by simp only [nrm,xdn,reduceIte,Nat.reduceLT,Nat.reduceSub,Nat.reduceAdd];omega) (ag (by simp only [nrm,xdn,reduceIte,Nat.reduceLT,Nat.reduceSub,Nat.reduceAdd,aN];omega) (G0 (fun c'=>?_) (fun c'=>?_)))
   ·simp only [nrm,xdn,reduceIte,Nat.reduceLT,Nat.reduceSub,Nat.reduceAdd,cX] at c'
    have c' : (msl m x2.toNat).refs=0:=c'
    have hL : Gt m x2=(Mem.none,8):=by unfold Gt;rw [if_neg (by omega),if_pos ha,if_pos c']
    rw [hL]
    refine Bf (by simp only [nrm,xdn,reduceIte,Nat.reduceLT,Nat.reduceSub,Nat.reduceAdd,Mem.cds,lca]) ?_
    refine ai d60 [.b true] rfl trivial (by simp only [nrm,xdn,reduceIte,Nat.reduceLT,Nat.reduceSub,Nat.reduceAdd,Mem.cds,Mem.none,G5,G7,lca,G8]) ?_
    refine aj ?_
    simp only [nrm,xdn,reduceIte,Nat.reduceLT,Nat.reduceSub,Nat.reduceAdd]
   ·simp only [nrm,xdn,reduceIte,Nat.reduceLT,Nat.reduceSub,Nat.reduceAdd,cX] at c'
    have c' : (msl m x2.toNat).refs≠0:=c'
    have hL : Gt m x2=(put m x2,0):=by unfold Gt;rw [if_neg (by omega),if_pos ha,if_neg c']
    rw [hL]
    refine ai d62 m.cds rfl trivial (by simp only [nrm,xdn,reduceIte,Nat.reduceLT,Nat.reduceSub,Nat.reduceAdd,fn62]) ?_
    refine ai d68 (put m x2).cds rfl ?_ (by simp only [nrm,xdn,reduceIte,Nat.reduceLT,Nat.reduceSub,Nat.reduceAdd,Mem.cds,lca,fn68]) ?_
    ·simp only [nrm,xdn,reduceIte,Nat.reduceLT,Nat.reduceSub,Nat.reduceAdd,Mem.cds,lca]
     have hh : d68.pre [au m.slots,af m.heads,af m.free,af m.locks,.i m.now,.i x2]:=by
      simp only [d68,mem_of,aA,List.getD_cons_zero,List.getD_cons_succ,CD.aR]
      exact ⟨ha.1,ha.2,hr.1,hr.2,by omega⟩
     exact hh
    generalize put m x2=q
    refine Bf (by simp only [nrm,xdn,reduceIte,Nat.reduceLT,Nat.reduceSub,Nat.reduceAdd,Mem.cds,lca]) ?_
    refine ai d60 [.b true] rfl trivial (by simp only [nrm,xdn,reduceIte,Nat.reduceLT,Nat.reduceSub,Nat.reduceAdd,Mem.cds,lca,Hm]) ?_
    refine aj ?_
    simp only [nrm,xdn,reduceIte,Nat.reduceLT,Nat.reduceSub,Nat.reduceAdd]
  ·simp only [nrm,xdn,reduceIte,Nat.reduceLT,Nat.reduceSub,Nat.reduceAdd,Mem.cds,lca,Bool.not_eq_false'] at c
   have hH : held m x2=((hold m x2).1,0):=by unfold held;rw [if_neg (by omega),if_pos ha,if_pos c]
   rw [hH]
   generalize (hold m x2).1=y
   refine Fk (by simp only [nrm,xdn,reduceIte,Nat.reduceLT,Nat.reduceSub,Nat.reduceAdd,Mem.cds,lca,decide_true,Bool.not_true,not_true_eq_false,decide_false,beq_self_eq_true]) ?_
   refine ai d60 [.b true] rfl trivial (by simp only [nrm,xdn,reduceIte,Nat.reduceLT,Nat.reduceSub,Nat.reduceAdd,Mem.cds,lca,Hm]) ?_
   refine Fk (by simp only [nrm,xdn,reduceIte,Nat.reduceLT,Nat.reduceSub,Nat.reduceAdd,Mem.cds,lca,decide_true,Bool.not_true,not_true_eq_false,decide_false,beq_self_eq_true]) ?_
   refine ag (by simp only [nrm,xdn,reduceIte,Nat.reduceLT,Nat.reduceSub,Nat.reduceAdd];omega) (ag (by simp only [nrm,xdn,reduceIte,Nat.reduceLT,Nat.reduceSub,Nat.reduceAdd,aN];omega) (G0 (fun c'=>?_) (fun c'=>?_)))
   ·simp only [nrm,xdn,reduceIte,Nat.reduceLT,Nat.reduceSub,Nat.reduceAdd,cX] at c'
    have c' : (msl m x2.toNat).refs=0:=c'
    have hL : Gt m x2=(Mem.none,8):=by unfold Gt;rw [if_neg (by omega),if_pos ha,if_pos c']
    rw [hL]
    refine Bf (by simp only [nrm,xdn,reduceIte,Nat.reduceLT,Nat.reduceSub,Nat.reduceAdd,Mem.cds,lca]) ?_
    refine ai d60 [.b true] rfl trivial (by simp only [nrm,xdn,reduceIte,Nat.reduceLT,Nat.reduceSub,Nat.reduceAdd,Mem.cds,Mem.none,G5,G7,lca,G8]) ?_
    refine aj ?_
    simp only [nrm,xdn,reduceIte,Nat.reduceLT,Nat.reduceSub,Nat.reduceAdd]
   ·simp only [nrm,xdn,reduceIte,Nat.reduceLT,Nat.reduceSub,Nat.reduceAdd,cX] at c'
    have c' : (msl m x2.toNat).refs≠0:=c'
    have hL : Gt m x2=(put m x2,0):=by unfold Gt;rw [if_neg (by omega),if_pos ha,if_neg c']
    rw [hL]
    refine ai d62 m.cds rfl trivial (by simp only [nrm,xdn,reduceIte,Nat.reduceLT,Nat.reduceSub,Nat.reduceAdd,fn62]) ?_
    refine ai d68 (put m x2).cds rfl ?_ (by simp only [nrm,xdn,reduceIte,Nat.reduceLT,Nat.reduceSub,Nat.reduceAdd,Mem.cds,lca,fn68]) ?_
    ·simp only [nrm,xdn,reduceIte,Nat.reduceLT,Nat.reduceSub,Nat.reduceAdd,Mem.cds,lca]
     have hh : d68.pre [au m.slots,af m.heads,af m.free,af m.locks,.i m.now,.i x2]:=by
      simp only [d68,mem_of,aA,List.getD_cons_zero,List.getD_cons_succ,CD.aR]
      exact ⟨ha.1,ha.2,hr.1,hr.2,by omega⟩
     exact hh
    generalize put m x2=q
    refine Bf (by simp only [nrm,xdn,reduceIte,Nat.reduceLT,Nat.reduceSub,Nat.reduceAdd,Mem.cds,lca]) ?_
    refine ai d60 [.b true] rfl trivial (by simp only [nrm,xdn,reduceIte,Nat.reduceLT,Nat.reduceSub,Nat.reduceAdd,Mem.cds,lca,Hm]) ?_
    refine aj ?_
    simp only [nrm,xdn,reduceIte,Nat.reduceLT,Nat.reduceSub,Nat.reduceAdd]
end Go.Proofs.Ytpmamacjepcdmaa
