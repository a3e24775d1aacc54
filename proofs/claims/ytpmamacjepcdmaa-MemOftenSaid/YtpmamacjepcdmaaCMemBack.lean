import Derived.Test.YtpmamacjepcdmaaCMemLaws
import Derived.Test.YtpmamacjepcdmaaCFacts
namespace Go.Proofs.Ytpmamacjepcdmaa
open Go Go.Sy Go.RowKit
set_option linter.unusedSimpArgs false
set_option linter.unusedVariables false
theorem F1 {m : Mem} {a : Int} (h : (held m a).2=0) : Gt (held m a).1 a=(m,0):=by
 obtain ⟨hm,h0,h1,h2,h3⟩:=FG h
 rw [K4 hm h0 h1 h2 h3]
 have hX : bB (cm m a.toNat (bx 1) m.free):=AA hm (by omega) h2 (by omega) (by omega)
 have hr : (msl (cm m a.toNat (bx 1) m.free) a.toNat).refs=(msl m a.toNat).refs + 1:=by
  rw [gJ,if_pos ⟨rfl,by omega⟩];rfl
 have:=F6 hX h0 (by rw [nB];exact h1) (by rw [hr];omega)
 rw [this,wO]
 exact congrArg (fun x=>(x,(0 : Int))) (wN m a.toNat)
structure Gc (m : Mem) (k : Key) (x : Int) (X : Mem) (a : Int) : Prop where
 e : taken m k x=(X,a,0)
 a0 : 0≤a
 a1 : a < m.slots.length
 r0 : (m.slots.getD a.toNat default).refs=0
 ok : bB X
 len : X.slots.length=m.slots.length
 r1 : (X.slots.getD a.toNat default).refs=1
 key : (X.slots.getD a.toNat default).k=k
 fl : (X.free.length : Int)=m.free.length - 1
 ne : ∀ j,j≠a.toNat→X.slots.getD j default=m.slots.getD j default
 lt : (Gt X a).2=0
 again : taken (Gt X a).1 k x=(X,a,0)
theorem Kz {m : Mem} {k : Key} {x : Int} (h : (taken m k x).2.2=0) : ∃ X a,Gc m k x X a:=by
 obtain ⟨hm,hk,h0,h1,hn⟩:=FY h
 have ht:=J8 hm hn hk h0 h1
 have hok:=Ai hm hn hk h0 h1
 have hl:=hm.free _ (pj hn)
 obtain ⟨a,ha⟩ : ∃ a,a=bc m:=⟨_,rfl⟩
 obtain ⟨fr,hfr⟩ : ∃ fr,fr=m.free.take (m.free.length - 1):=⟨_,rfl⟩
 have hfl : (fr.length : Int)=m.free.length - 1:=by rw [hfr,List.length_take];omega
 rw [← ha] at ht hok hl
 rw [← hfr] at ht hok
 have hlt : a.toNat < m.slots.length:=by omega
 have hXa : msl (cm m a.toNat (cp k x) fr) a.toNat=cp k x (msl m a.toNat):=by rw [gJ,if_pos ⟨rfl,hlt⟩]
 have hlet:=FE hok hl.1 (by rw [nB];exact hl.2.1) (by rw [hXa];rfl)
 have hY:=DQ hok hl.1 (by rw [nB];exact hl.2.1) (by rw [hXa];rfl)
 have hYf : (cm (cm m a.toNat (cp k x) fr) a.toNat (bx (-1)) ((cm m a.toNat (cp k x) fr).free ++ [a])).free=fr ++ [a]:=rfl
 have hYn : (cm (cm m a.toNat (cp k x) fr) a.toNat (bx (-1)) ((cm m a.toNat (cp k x) fr).free ++ [a])).free.length≠0:=by rw [hYf];simp
 have hYl : bc (cm (cm m a.toNat (cp k x) fr) a.toNat (bx (-1)) ((cm m a.toNat (cp k x) fr).free ++ [a]))=a:=by
  unfold bc
  rw [hYf]
  simp [List.getD_eq_getElem?_getD]
 refine ⟨cm m a.toNat (cp k x) fr,a,ht,hl.1,hl.2.1,hl.2.2,hok,nB _ _ _ _,?_,?_,hfl,fun j hj=>?_,?_,?_⟩
 ·show (msl _ _).refs=1
  rw [hXa];rfl
 ·show (msl _ _).k=k
  rw [hXa];rfl
 ·show msl _ _=msl m j
  rw [gJ,if_neg (fun y=>hj y.1.symm)]
 ·rw [hlet]
 ·rw [hlet]
  show taken (cm (cm m a.toNat (cp k x) fr) a.toNat (bx (-1)) ((cm m a.toNat (cp k x) fr).free ++ [a])) k x=_
  rw [J8 hY hYn hk h0 h1,hYl,hYf,uj,uj]
  have e1 : (fr ++ [a]).take ((fr ++ [a]).length - 1)=fr:=by simp
  rw [e1]
  rfl
def s9 : Sig:=⟨[.agg [.fz kS,.fz kI,.fz kI,.fz kI,.int .i64],.agg [.int .i64,.int .i64],.one (.int .i64),.one (.int .i64)],[.one (.bool)]⟩
def d9 : DC:=⟨s9,fun _=>True,fun _=>[.b true]⟩
def l9 : List (Nat × Ct):=[(63,d63.ct),(64,d64.ct),(59,d59.ct),(54,d54.ct),(50,d50.ct),(51,d51.ct)]
def z9 : Cx:={ T:=ttA,C:=sigs l9,F:=[],hints:=[⟨9,12,false,[(114,.lt)],[],[],[],0,0,false⟩],sig:=s9}
def t9 : Tree :=
 (.call 63 [.var 0,.var 1,.var 2,.var 3,.var 4,.var 8] 9
 (.ite (.eq (.var 14) (.int 0))
 (.call 64 [.var 9,.var 10,.var 11,.var 12,.var 13,.var 8] 15
 (.ite (.not (.eq (.var 20) (.int 0)))
 (.ret [.bool false])
 (.call 59 [.var 15,.var 16,.var 17,.var 18,.var 19,.var 0,.var 1,.var 2,.var 3,.var 4] 21
 (.ite (.not (.var 21))
 (.ret [.bool false])
 (.call 54 [.var 0,.var 1,.var 2,.var 3,.var 4,.var 5,.var 6,.var 7] 22
 (.call 50 [] 29
 (.ite (.not (.var 29))
 (.call 50 [] 30
 (.ret [.var 30]))
 (.ite (.not (.eq (.var 28) (.int 0)))
 (.call 50 [] 30
 (.ret [.var 30]))
 (.ite (.lt (.var 27) (.int 0))
 (.ret [.bool false])
 (.ite (.le (.len (.var 0)) (.var 27))
 (.ret [.bool false])
 (.need (.le (.int 0) (.var 27))
 (.need (.lt (.var 27) (.len (.var 0)))
 (.ite (.not (.eq (.cell (.var 0) (.var 27) 0) (.int 0)))
 (.ret [.bool false])
 (.need (.lt (.var 27) (.len (.var 22)))
 (.ite (.not (.eq (.cell (.var 22) (.var 27) 0) (.int 1)))
 (.ret [.bool false])
 (.ite (.not (.and (.eq (.cell (.var 22) (.var 27) 1) (.var 5)) (.and (.eq (.cell (.var 22) (.var 27) 2) (.var 6)) (.bool true))))
 (.ret [.bool false])
 (.need (.fit (.sub (.len (.var 2)) (.int 1)))
 (.ite (.not (.eq (.len (.var 24)) (.sub (.len (.var 2)) (.int 1))))
 (.ret [.bool false])
 (.call 51 [.var 22,.var 23,.var 24,.var 25,.var 26] 30
 (.ite (.not (.eq (.var 30) (.int 0)))
 (.ret [.bool false])
 (.loop 31 [.int .i64] [.int 0]
 (.ite (.lt (.var 32) (.len (.var 0)))
 (.need (.le (.int 0) (.var 32))
 (.ite (.not (.eq (.var 32) (.var 27)))
 (.need (.lt (.var 32) (.len (.var 22)))
 (.ite (.not (.and (.eq (.cell (.var 22) (.var 32) 0) (.cell (.var 0) (.var 32) 0)) (.and (.eq (.cell (.var 22) (.var 32) 1) (.cell (.var 0) (.var 32) 1)) (.and (.eq (.cell (.var 22) (.var 32) 2) (.cell (.var 0) (.var 32) 2)) (.and (.eq (.cell (.var 22) (.var 32) 3) (.cell (.var 0) (.var 32) 3)) (.and (.beq (.cell (.var 22) (.var 32) 4) (.cell (.var 0) (.var 32) 4)) (.and (.eq (.cell (.var 22) (.var 32) 5) (.cell (.var 0) (.var 32) 5)) (.bool true))))))))
 (.ret [.bool false])
 (.need (.fit (.add (.var 32) (.int 1)))
 (.back 31 [.add (.var 32) (.int 1)]))))
 (.need (.fit (.add (.var 32) (.int 1)))
 (.back 31 [.add (.var 32) (.int 1)]))))
 (.call 64 [.var 22,.var 23,.var 24,.var 25,.var 26,.var 27] 33
 (.call 54 [.var 33,.var 34,.var 35,.var 36,.var 37,.var 5,.var 6,.var 7] 39
 (.ite (.eq (.var 38) (.int 0))
 (.ite (.eq (.var 45) (.int 0))
 (.ite (.eq (.var 44) (.var 27))
 (.call 59 [.var 39,.var 40,.var 41,.var 42,.var 43,.var 22,.var 23,.var 24,.var 25,.var 26] 46
 (.ret [.var 46]))
 (.ret [.bool false]))
 (.ret [.bool false]))
 (.ret [.bool false]))))))))))))))))))))))))))
 (.call 54 [.var 0,.var 1,.var 2,.var 3,.var 4,.var 5,.var 6,.var 7] 15
 (.call 50 [] 22
 (.ite (.not (.var 22))
 (.call 50 [] 23
 (.ret [.var 23]))
 (.ite (.not (.eq (.var 21) (.int 0)))
 (.call 50 [] 23
 (.ret [.var 23]))
 (.ite (.lt (.var 20) (.int 0))
 (.ret [.bool false])
 (.ite (.le (.len (.var 0)) (.var 20))
 (.ret [.bool false])
 (.need (.le (.int 0) (.var 20))
 (.need (.lt (.var 20) (.len (.var 0)))
 (.ite (.not (.eq (.cell (.var 0) (.var 20) 0) (.int 0)))
 (.ret [.bool false])
 (.need (.lt (.var 20) (.len (.var 15)))
 (.ite (.not (.eq (.cell (.var 15) (.var 20) 0) (.int 1)))
 (.ret [.bool false])
 (.ite (.not (.and (.eq (.cell (.var 15) (.var 20) 1) (.var 5)) (.and (.eq (.cell (.var 15) (.var 20) 2) (.var 6)) (.bool true))))
 (.ret [.bool false])
 (.need (.fit (.sub (.len (.var 2)) (.int 1)))
 (.ite (.not (.eq (.len (.var 17)) (.sub (.len (.var 2)) (.int 1))))
 (.ret [.bool false])
 (.call 51 [.var 15,.var 16,.var 17,.var 18,.var 19] 23
 (.ite (.not (.eq (.var 23) (.int 0)))
 (.ret [.bool false])
 (.loop 24 [.int .i64] [.int 0]
 (.ite (.lt (.var 25) (.len (.var 0)))
 (.need (.le (.int 0) (.var 25))
 (.ite (.not (.eq (.var 25) (.var 20)))
 (.need (.lt (.var 25) (.len (.var 15)))
 (.ite (.not (.and (.eq (.cell (.var 15) (.var 25) 0) (.cell (.var 0) (.var 25) 0)) (.and (.eq (.cell (.var 15) (.var 25) 1) (.cell (.var 0) (.var 25) 1)) (.and (.eq (.cell (.var 15) (.var 25) 2) (.cell (.var 0) (.var 25) 2)) (.and (.eq (.cell (.var 15) (.var 25) 3) (.cell (.var 0) (.var 25) 3)) (.and (.beq (.cell (.var 15) (.var 25) 4) (.cell (.var 0) (.var 25) 4)) (.and (.eq (.cell (.var 15) (.var 25) 5) (.cell (.var 0) (.var 25) 5)) (.bool true))))))))
 (.ret [.bool false])
 (.need (.fit (.add (.var 25) (.int 1)))
 (.back 24 [.add (.var 25) (.int 1)]))))
 (.need (.fit (.add (.var 25) (.int 1)))
 (.back 24 [.add (.var 25) (.int 1)]))))
 (.call 64 [.var 15,.var 16,.var 17,.var 18,.var 19,.var 20] 26
 (.call 54 [.var 26,.var 27,.var 28,.var 29,.var 30,.var 5,.var 6,.var 7] 32
 (.ite (.eq (.var 31) (.int 0))
 (.ite (.eq (.var 38) (.int 0))
 (.ite (.eq (.var 37) (.var 20))
 (.call 59 [.var 32,.var 33,.var 34,.var 35,.var 36,.var 15,.var 16,.var 17,.var 18,.var 19] 39
 (.ret [.var 39]))
 (.ret [.bool false]))
 (.ret [.bool false]))
 (.ret [.bool false]))))))))))))))))))))))))
theorem run9 : run z9 6000 [.code (Try.f9.body.getD .skip),.fin (bt z9 Try.f9.results.toList 50)] { fn:=9,tmps:=z9.sig.aM ++ List.replicate (Try.f9.ntmps - z9.sig.aM.length) (.v (.one .undef)),stk:=[],h:=z9.sig.h0,nx:=z9.sig.ins.length,known:=[]}=t9:=by kernel_rfl
theorem ok9 : cB Try.prog 9 d9.ct:=by
 refine aD (d:=d9) (Z:=z9) (Γ:=gam l9) (fn:=Try.f9) (c:=Try.f9.body.getD .skip) (bg tok mixed (all_cons ok63 (all_cons ok64 (all_cons ok59 (all_cons ok54 (all_cons ok50 (all_cons ok51 all_nil)))))) bh) Try.func9 (by kernel_rfl) (by kernel_rfl) rfl run9 fun E hk hp=>?_
 obtain ⟨hk0,hk1,hk2,hk3,hk4,hk5,hk6,hk7,hk8,_⟩:=hk
 obtain ⟨m,e0,e1,e2,e3,e4,b0,b1,b2,b3⟩:=cv (d0:=E 0) (d1:=E 1) (d2:=E 2) (d3:=E 3) (d4:=E 4) hk0 hk1 hk2 hk3 hk4
 obtain ⟨k,e5,e6⟩:=vM (d0:=E 5) (d1:=E 6) hk5 hk6
 obtain ⟨x,e7⟩:=ok_int (d:=E 7) hk7
 obtain ⟨x2,e8⟩:=ok_int (d:=E 8) hk8
 have el : aH E d9.sig.ins.length=[au m.slots,af m.heads,af m.free,af m.locks,.i m.now,.i k.a,.i k.b,.i x,.i x2]:=by
  show [E 0,E 1,E 2,E 3,E 4,E 5,E 6,E 7,E 8]=_
  rw [e0,e1,e2,e3,e4,e5,e6,e7,e8]
 rw [el] at hp
 rw [el]
 rw [Env.bJ el]
 clear el e0 e1 e2 e3 e4 e5 e6 e7 e8
 simp only [d9]
 unfold t9
 have done : ∀ (lo : Nat) (E' : Env) (J : JJ),(Tree.call 50 [] lo (.ret [.var lo])).den (gam l9) (fun outs=>outs=[.b true]) E' J:=fun lo E' J=>by
  refine ai d50 [.b true] rfl trivial rfl (aj ?_)
  simp only [nrm,xdn,reduceIte,Nat.reduceLT,Nat.reduceSub,Nat.reduceAdd]
 refine ai d63 ((held m x2).1.cds ++ [.i (held m x2).2]) rfl trivial (by simp only [nrm,xdn,reduceIte,Nat.reduceLT,Nat.reduceSub,Nat.reduceAdd,fn63]) ?_
 refine G0 (fun h=>?_) (fun h=>?_)
 ·simp only [nrm,xdn,reduceIte,Nat.reduceLT,Nat.reduceSub,Nat.reduceAdd,Mem.cds,lca] at h
  have hb:=F1 h
  refine ai d64 (m.cds ++ [.i 0]) rfl trivial (by simp only [nrm,xdn,reduceIte,Nat.reduceLT,Nat.reduceSub,Nat.reduceAdd,Mem.cds,lca,fn64,hb]) ?_
  refine G0 (fun h=>absurd h (by simp only [nrm,xdn,reduceIte,Nat.reduceLT,Nat.reduceSub,Nat.reduceAdd,Mem.cds,lca];decide)) (fun _=>?_)
  refine ai d59 [.b true] rfl trivial (by simp only [nrm,xdn,reduceIte,Nat.reduceLT,Nat.reduceSub,Nat.reduceAdd,Mem.cds,lca,fn59,decide_true]) ?_
  refine G0 (fun h=>absurd h (by simp only [nrm,xdn,reduceIte,Nat.reduceLT,Nat.reduceSub,Nat.reduceAdd];decide)) (fun _=>?_)
  by_cases he : (taken m k x).2.2=0
  case neg =>
   refine ai d54 ((taken m k x).1.cds ++ [.i (taken m k x).2.1,.i (taken m k x).2.2]) rfl trivial (by simp only [nrm,xdn,reduceIte,Nat.reduceLT,Nat.reduceSub,Nat.reduceAdd,Mem.cds,lca,fn54,eZ]) ?_
   refine ai d50 [.b true] rfl trivial rfl (G0 (fun h=>absurd h (by simp only [nrm,xdn,reduceIte,Nat.reduceLT,Nat.reduceSub,Nat.reduceAdd,Mem.cds,lca];decide)) (fun _=>G0 (fun _=>done _ _ _) (fun h=>absurd h ?_)))
   simp only [nrm,xdn,reduceIte,Nat.reduceLT,Nat.reduceSub,Nat.reduceAdd,Mem.cds,lca]
   simpa using he
  case pos =>
   obtain ⟨mx,a,hT⟩:=Kz he
   have hns:=hT.ok.ns
   have hnf:=hT.ok.nf
   have hlen:=hT.len
   have ha0:=hT.a0
   have ha1:=hT.a1
   refine ai d54 (mx.cds ++ [.i a,.i 0]) rfl trivial (by simp only [nrm,xdn,reduceIte,Nat.reduceLT,Nat.reduceSub,Nat.reduceAdd,Mem.cds,lca,fn54,eZ,hT.e]) ?_
   refine ai d50 [.b true] rfl trivial rfl (G0 (fun h=>absurd h (by simp only [nrm,xdn,reduceIte,Nat.reduceLT,Nat.reduceSub,Nat.reduceAdd,Mem.cds,lca];decide)) (fun _=>G0 (fun h=>absurd h (by simp only [nrm,xdn,reduceIte,Nat.reduceLT,Nat.reduceSub,Nat.reduceAdd,Mem.cds,lca];decide)) (fun _=>?_)))
   refine G0 (fun h=>absurd h (by simp only [nrm,xdn,reduceIte,Nat.reduceLT,Nat.reduceSub,Nat.reduceAdd,Mem.cds,lca];omega)) (fun _=>G0 (fun h=>absurd h (by simp only [nrm,xdn,reduceIte,Nat.reduceLT,Nat.reduceSub,Nat.reduceAdd,Mem.cds,lca,aN];omega)) (fun _=>?_))
   refine eh (by simp only [nrm,xdn,reduceIte,Nat.reduceLT,Nat.reduceSub,Nat.reduceAdd,Mem.cds,lca];omega) (lv (by simp only [nrm,xdn,reduceIte,Nat.reduceLT,Nat.reduceSub,Nat.reduceAdd,Mem.cds,lca,aN];omega) (G0 (fun h=>absurd h (by simp only [nrm,xdn,reduceIte,Nat.reduceLT,Nat.reduceSub,Nat.reduceAdd,Mem.cds,lca,cX,hT.r0];decide)) (fun _=>?_)))
   refine lv (by simp only [nrm,xdn,reduceIte,Nat.reduceLT,Nat.reduceSub,Nat.reduceAdd,Mem.cds,lca,aN];omega) (G0 (fun h=>absurd h (by simp only [nrm,xdn,reduceIte,Nat.reduceLT,Nat.reduceSub,Nat.reduceAdd,Mem.cds,lca,cX,hT.r1];decide)) (fun _=>?_))
   refine G0 (fun h=>absurd h (by simp only [nrm,xdn,reduceIte,Nat.reduceLT,Nat.reduceSub,Nat.reduceAdd,Mem.cds,lca,cG,cF,hT.key];simp)) (fun _=>?_)
   refine G1 (by simp only [nrm,xdn,reduceIte,Nat.reduceLT,Nat.reduceSub,Nat.reduceAdd,Mem.cds,lca,aw];have:=hT.fl;omega) (G0 (fun h=>absurd h (by simp only [nrm,xdn,reduceIte,Nat.reduceLT,Nat.reduceSub,Nat.reduceAdd,Mem.cds,lca,aw,hT.fl];simp)) (fun _=>?_))
   refine ai d51 [.i 0] rfl trivial (by simp only [nrm,xdn,reduceIte,Nat.reduceLT,Nat.reduceSub,Nat.reduceAdd,Mem.cds,lca,d51,mem_of,aA,(dT mx).2 hT.ok]) ?_
   refine G0 (fun h=>absurd h (by simp only [nrm,xdn,reduceIte,Nat.reduceLT,Nat.reduceSub,Nat.reduceAdd,Mem.cds,lca];decide)) (fun _=>?_)
   refine bO (fun ds=>∃ j : Nat,ds=[.i j]∧j≤m.slots.length) (fun ds=>m.slots.length - (ds.getD 0 .u).int.toNat) ⟨0,rfl,by omega⟩ ?_
   rintro ds - ⟨j,rfl,hj⟩
   refine G0 (fun hlt=>?_) (fun _=>?_)
   ·simp only [nrm,xdn,reduceIte,Nat.reduceLT,Nat.reduceSub,Nat.reduceAdd,Mem.cds,lca,aN] at hlt
    have back : ∀ (id : Nat) (J : JJ) (E' : Env) (c : X),(c.den E').int=(j : Int) + 1→(∃ n,c.den E'=.i n)→(Tree.back id [c]).den (gam l9) (fun outs=>outs=[.b true]) E' (J.put id fun ds'=>(∃ j : Nat,ds'=[.i j]∧j≤m.slots.length)∧(fun ds : List CD=>m.slots.length - (ds.getD 0 .u).int.toNat) ds' < (fun ds : List CD=>m.slots.length - (ds.getD 0 .u).int.toNat) [.i j]):=fun id J E' c hc hn=>by
     obtain ⟨n,hn⟩:=hn
     rw [hn] at hc
     simp only [CD.aR] at hc
     refine aV ⟨⟨j + 1,?_,by omega⟩,?_⟩
     ·simp only [List.map_cons,List.map_nil,hn,hc];rfl
     ·simp only [List.map_cons,List.map_nil,hn,hc,List.getD_cons_zero,CD.aR];omega
    refine eh (by simp only [nrm,xdn,reduceIte,Nat.reduceLT,Nat.reduceSub,Nat.reduceAdd,Mem.cds,lca];omega) (G0 (fun hne=>?_) (fun _=>?_))
    ·simp only [nrm,xdn,reduceIte,Nat.reduceLT,Nat.reduceSub,Nat.reduceAdd,Mem.cds,lca,Bool.not_eq_true'] at hne
     have hx:=hT.ne j (by omega)
     refine lv (by simp only [nrm,xdn,reduceIte,Nat.reduceLT,Nat.reduceSub,Nat.reduceAdd,Mem.cds,lca,aN];omega) (G0 (fun h=>absurd h (by simp only [nrm,xdn,reduceIte,Nat.reduceLT,Nat.reduceSub,Nat.reduceAdd,Mem.cds,lca,cX,cG,cF,cy,cx,cE,Int.toNat_natCast,hx];simp)) (fun _=>?_))
     exact G1 (by simp only [nrm,xdn,reduceIte,Nat.reduceLT,Nat.reduceSub,Nat.reduceAdd,Mem.cds,lca];omega) (back _ _ _ _ (by simp only [nrm,xdn,reduceIte,Nat.reduceLT,Nat.reduceSub,Nat.reduceAdd,Mem.cds,lca]) ⟨_,rfl⟩)
    ·exact G1 (by simp only [nrm,xdn,reduceIte,Nat.reduceLT,Nat.reduceSub,Nat.reduceAdd,Mem.cds,lca];omega) (back _ _ _ _ (by simp only [nrm,xdn,reduceIte,Nat.reduceLT,Nat.reduceSub,Nat.reduceAdd,Mem.cds,lca]) ⟨_,rfl⟩)
   ·refine ai d64 ((Gt mx a).1.cds ++ [.i 0]) rfl trivial (by simp only [nrm,xdn,reduceIte,Nat.reduceLT,Nat.reduceSub,Nat.reduceAdd,Mem.cds,lca,fn64,hT.lt]) ?_
    refine ai d54 (mx.cds ++ [.i a,.i 0]) rfl trivial (by simp only [nrm,xdn,reduceIte,Nat.reduceLT,Nat.reduceSub,Nat.reduceAdd,Mem.cds,lca,fn54,eZ,hT.again]) ?_
    refine G0 (fun _=>G0 (fun _=>G0 (fun _=>?_) (fun h=>absurd h (by simp only [nrm,xdn,reduceIte,Nat.reduceLT,Nat.reduceSub,Nat.reduceAdd,Mem.cds,lca];simp))) (fun h=>absurd h (by simp only [nrm,xdn,reduceIte,Nat.reduceLT,Nat.reduceSub,Nat.reduceAdd,Mem.cds,lca];decide))) (fun h=>absurd h (by simp only [nrm,xdn,reduceIte,Nat.reduceLT,Nat.reduceSub,Nat.reduceAdd,Mem.cds,lca];decide))
    refine ai d59 [.b true] rfl trivial (by simp only [nrm,xdn,reduceIte,Nat.reduceLT,Nat.reduceSub,Nat.reduceAdd,Mem.cds,lca,fn59,decide_true]) (aj ?_)
    simp only [nrm,xdn,reduceIte,Nat.reduceLT,Nat.reduceSub,Nat.reduceAdd,Mem.cds,lca]
 ·by_cases he : (taken m k x).2.2=0
  case neg =>
   refine ai d54 ((taken m k x).1.cds ++ [.i (taken m k x).2.1,.i (taken m k x).2.2]) rfl trivial (by simp only [nrm,xdn,reduceIte,Nat.reduceLT,Nat.reduceSub,Nat.reduceAdd,Mem.cds,lca,fn54,eZ]) ?_
   refine ai d50 [.b true] rfl trivial rfl (G0 (fun h=>absurd h (by simp only [nrm,xdn,reduceIte,Nat.reduceLT,Nat.reduceSub,Nat.reduceAdd,Mem.cds,lca];decide)) (fun _=>G0 (fun _=>done _ _ _) (fun h=>absurd h ?_)))
   simp only [nrm,xdn,reduceIte,Nat.reduceLT,Nat.reduceSub,Nat.reduceAdd,Mem.cds,lca]
   simpa using he
  case pos =>
   obtain ⟨mx,a,hT⟩:=Kz he
   have hns:=hT.ok.ns
   have hnf:=hT.ok.nf
   have hlen:=hT.len
   have ha0:=hT.a0
   have ha1:=hT.a1
   refine ai d54 (mx.cds ++ [.i a,.i 0]) rfl trivial (by simp only [nrm,xdn,reduceIte,Nat.reduceLT,Nat.reduceSub,Nat.reduceAdd,Mem.cds,lca,fn54,eZ,hT.e]) ?_
   refine ai d50 [.b true] rfl trivial rfl (G0 (fun h=>absurd h (by simp only [nrm,xdn,reduceIte,Nat.reduceLT,Nat.reduceSub,Nat.reduceAdd,Mem.cds,lca];decide)) (fun _=>G0 (fun h=>absurd h (by simp only [nrm,xdn,reduceIte,Nat.reduceLT,Nat.reduceSub,Nat.reduceAdd,Mem.cds,lca];decide)) (fun _=>?_)))
   refine G0 (fun h=>absurd h (by simp only [nrm,xdn,reduceIte,Nat.reduceLT,Nat.reduceSub,Nat.reduceAdd,Mem.cds,lca];omega)) (fun _=>G0 (fun h=>absurd h (by simp only [nrm,xdn,reduceIte,Nat.reduceLT,Nat.reduceSub,Nat.reduceAdd,Mem.cds,lca,aN];omega)) (fun _=>?_))
   refine eh (by simp only [nrm,xdn,reduceIte,Nat.reduceLT,Nat.reduceSub,Nat.reduceAdd,Mem.cds,lca];omega) (lv (by simp only [nrm,xdn,reduceIte,Nat.reduceLT,Nat.reduceSub,Nat.reduceAdd,Mem.cds,lca,aN];omega) (G0 (fun h=>absurd h (by simp only [nrm,xdn,reduceIte,Nat.reduceLT,Nat.reduceSub,Nat.reduceAdd,Mem.cds,lca,cX,hT.r0];decide)) (fun _=>?_)))
   refine lv (by simp only [nrm,xdn,reduceIte,Nat.reduceLT,Nat.reduceSub,Nat.reduceAdd,Mem.cds,lca,aN];omega) (G0 (fun h=>absurd h (by simp only [nrm,xdn,reduceIte,Nat.reduceLT,Nat.reduceSub,Nat.reduceAdd,Mem.cds,lca,cX,hT.r1];decide)) (fun _=>?_))
   refine G0 (fun h=>absurd h (by simp only [nrm,xdn,reduceIte,Nat.reduceLT,Nat.reduceSub,Nat.reduceAdd,Mem.cds,lca,cG,cF,hT.key];simp)) (fun _=>?_)
   refine G1 (by simp only [nrm,xdn,reduceIte,Nat.reduceLT,Nat.reduceSub,Nat.reduceAdd,Mem.cds,lca,aw];have:=hT.fl;omega) (G0 (fun h=>absurd h (by simp only [nrm,xdn,reduceIte,Nat.reduceLT,Nat.reduceSub,Nat.reduceAdd,Mem.cds,lca,aw,hT.fl];simp)) (fun _=>?_))
   refine ai d51 [.i 0] rfl trivial (by simp only [nrm,xdn,reduceIte,Nat.reduceLT,Nat.reduceSub,Nat.reduceAdd,Mem.cds,lca,d51,mem_of,aA,(dT mx).2 hT.ok]) ?_
   refine G0 (fun h=>absurd h (by simp only [nrm,xdn,reduceIte,Nat.reduceLT,Nat.reduceSub,Nat.reduceAdd,Mem.cds,lca];decide)) (fun _=>?_)
   refine bO (fun ds=>∃ j : Nat,ds=[.i j]∧j≤m.slots.length) (fun ds=>m.slots.length - (ds.getD 0 .u).int.toNat) ⟨0,rfl,by omega⟩ ?_
   rintro ds - ⟨j,rfl,hj⟩
   refine G0 (fun hlt=>?_) (fun _=>?_)
   ·simp only [nrm,xdn,reduceIte,Nat.reduceLT,Nat.reduceSub,Nat.reduceAdd,Mem.cds,lca,aN] at hlt
    have back : ∀ (id : Nat) (J : JJ) (E' : Env) (c : X),(c.den E').int=(j : Int) + 1→(∃ n,c.den E'=.i n)→(Tree.back id [c]).den (gam l9) (fun outs=>outs=[.b true]) E' (J.put id fun ds'=>(∃ j : Nat,ds'=[.i j]∧j≤m.slots.length)∧(fun ds : List CD=>m.slots.length - (ds.getD 0 .u).int.toNat) ds' < (fun ds : List CD=>m.slots.length - (ds.getD 0 .u).int.toNat) [.i j]):=fun id J E' c hc hn=>by
     obtain ⟨n,hn⟩:=hn
     rw [hn] at hc
     simp only [CD.aR] at hc
     refine aV ⟨⟨j + 1,?_,by omega⟩,?_⟩
     ·simp only [List.map_cons,List.map_nil,hn,hc];rfl
     ·simp only [List.map_cons,List.map_nil,hn,hc,List.getD_cons_zero,CD.aR];omega
    refine eh (by simp only [nrm,xdn,reduceIte,Nat.reduceLT,Nat.reduceSub,Nat.reduceAdd,Mem.cds,lca];omega) (G0 (fun hne=>?_) (fun _=>?_))
    ·simp only [nrm,xdn,reduceIte,Nat.reduceLT,Nat.reduceSub,Nat.reduceAdd,Mem.cds,lca,Bool.not_eq_true'] at hne
     have hx:=hT.ne j (by omega)
     refine lv (by simp only [nrm,xdn,reduceIte,Nat.reduceLT,Nat.reduceSub,Nat.reduceAdd,Mem.cds,lca,aN];omega) (G0 (fun h=>absurd h (by simp only [nrm,xdn,reduceIte,Nat.reduceLT,Nat.reduceSub,Nat.reduceAdd,Mem.cds,lca,cX,cG,cF,cy,cx,cE,Int.toNat_natCast,hx];simp)) (fun _=>?_))
     exact G1 (by simp only [nrm,xdn,reduceIte,Nat.reduceLT,Nat.reduceSub,Nat.reduceAdd,Mem.cds,lca];omega) (back _ _ _ _ (by simp only [nrm,xdn,reduceIte,Nat.reduceLT,Nat.reduceSub,Nat.reduceAdd,Mem.cds,lca]) ⟨_,rfl⟩)
    ·exact G1 (by simp only [nrm,xdn,reduceIte,Nat.reduceLT,Nat.reduceSub,Nat.reduceAdd,Mem.cds,lca];omega) (back _ _ _ _ (by simp only [nrm,xdn,reduceIte,Nat.reduceLT,Nat.reduceSub,Nat.reduceAdd,Mem.cds,lca]) ⟨_,rfl⟩)
   ·refine ai d64 ((Gt mx a).1.cds ++ [.i 0]) rfl trivial (by simp only [nrm,xdn,reduceIte,Nat.reduceLT,Nat.reduceSub,Nat.reduceAdd,Mem.cds,lca,fn64,hT.lt]) ?_
    refine ai d54 (mx.cds ++ [.i a,.i 0]) rfl trivial (by simp only [nrm,xdn,reduceIte,Nat.reduceLT,Nat.reduceSub,Nat.reduceAdd,Mem.cds,lca,fn54,eZ,hT.again]) ?_
    refine G0 (fun _=>G0 (fun _=>G0 (fun _=>?_) (fun h=>absurd h (by simp only [nrm,xdn,reduceIte,Nat.reduceLT,Nat.reduceSub,Nat.reduceAdd,Mem.cds,lca];simp))) (fun h=>absurd h (by simp only [nrm,xdn,reduceIte,Nat.reduceLT,Nat.reduceSub,Nat.reduceAdd,Mem.cds,lca];decide))) (fun h=>absurd h (by simp only [nrm,xdn,reduceIte,Nat.reduceLT,Nat.reduceSub,Nat.reduceAdd,Mem.cds,lca];decide))
    refine ai d59 [.b true] rfl trivial (by simp only [nrm,xdn,reduceIte,Nat.reduceLT,Nat.reduceSub,Nat.reduceAdd,Mem.cds,lca,fn59,decide_true]) (aj ?_)
    simp only [nrm,xdn,reduceIte,Nat.reduceLT,Nat.reduceSub,Nat.reduceAdd,Mem.cds,lca]
end Go.Proofs.Ytpmamacjepcdmaa
