import Derived.Test.YtpmamacjepcdmaaCDelete
import Derived.Test.YtpmamacjepcdmaaCRef3
import Derived.Test.YtpmamacjepcdmaaCChain2
namespace Go.Proofs.Ytpmamacjepcdmaa
open Go Go.Sy Go.RowKit
set_option linter.unusedSimpArgs false
set_option linter.unusedVariables false
def s215 : Sig:=⟨[.one (.own 3 kI),.one (.int .i64),.one (.int .i64)],[.one (.own 3 kI)]⟩
def d215 : DC:=⟨s215,fun l=>0≤(l.getD 1 .u).int∧(l.getD 1 .u).int≤(l.getD 2 .u).int∧(l.getD 2 .u).int≤(l.getD 0 .u).ints.length,fun l=>[aa ((l.getD 0 .u).ints.take (l.getD 1 .u).int.toNat ++ (l.getD 0 .u).ints.drop (l.getD 2 .u).int.toNat)]⟩
def l215 : List (Nat × Ct):=[]
def z215 : Cx:={ T:=ttA,C:=sigs l215,F:=[],hints:=[],sig:=s215}
def t215 : Tree :=
 (.need (.le (.int 0) (.var 1))
 (.need (.le (.var 1) (.var 2))
 (.need (.le (.var 2) (.len (.var 0)))
 (.ite (.eq (.var 1) (.var 2))
 (.ret [.var 0])
 (.need (.le (.var 1) (.len (.var 0)))
 (.need (.le (.int 0) (.var 2))
 (.need (.le (.add (.var 1) (.sub (.len (.var 0)) (.var 2))) (.len (.var 0)))
 (.need (.le (.add (.var 2) (.sub (.len (.var 0)) (.var 2))) (.len (.var 0)))
 (.need (.le (.int 0) (.add (.var 1) (.sub (.len (.var 0)) (.var 2))))
 (.need (.le (.len (.var 0)) (.add (.len (.take (.var 1) (.var 0))) (.add (.len (.take (.sub (.len (.var 0)) (.var 2)) (.drop (.var 2) (.var 0)))) (.len (.drop (.add (.var 1) (.sub (.len (.var 0)) (.var 2))) (.var 0))))))
 (.need (.le (.add (.add (.var 1) (.sub (.len (.var 0)) (.var 2))) (.sub (.len (.var 0)) (.add (.var 1) (.sub (.len (.var 0)) (.var 2))))) (.add (.len (.take (.var 1) (.var 0))) (.add (.len (.take (.sub (.len (.var 0)) (.var 2)) (.drop (.var 2) (.var 0)))) (.len (.drop (.add (.var 1) (.sub (.len (.var 0)) (.var 2))) (.var 0))))))
 (.need (.le (.add (.var 1) (.sub (.len (.var 0)) (.var 2))) (.add (.len (.take (.add (.var 1) (.sub (.len (.var 0)) (.var 2))) (.app (.take (.var 1) (.var 0)) (.app (.take (.sub (.len (.var 0)) (.var 2)) (.drop (.var 2) (.var 0))) (.drop (.add (.var 1) (.sub (.len (.var 0)) (.var 2))) (.var 0)))))) (.add (.len (.rep (.sub (.len (.var 0)) (.add (.var 1) (.sub (.len (.var 0)) (.var 2)))) (.cons (.int 0) .row0))) (.len (.drop (.add (.add (.var 1) (.sub (.len (.var 0)) (.var 2))) (.sub (.len (.var 0)) (.add (.var 1) (.sub (.len (.var 0)) (.var 2))))) (.app (.take (.var 1) (.var 0)) (.app (.take (.sub (.len (.var 0)) (.var 2)) (.drop (.var 2) (.var 0))) (.drop (.add (.var 1) (.sub (.len (.var 0)) (.var 2))) (.var 0)))))))))
 (.ret [.take (.add (.var 1) (.sub (.len (.var 0)) (.var 2))) (.app (.take (.add (.var 1) (.sub (.len (.var 0)) (.var 2))) (.app (.take (.var 1) (.var 0)) (.app (.take (.sub (.len (.var 0)) (.var 2)) (.drop (.var 2) (.var 0))) (.drop (.add (.var 1) (.sub (.len (.var 0)) (.var 2))) (.var 0))))) (.app (.rep (.sub (.len (.var 0)) (.add (.var 1) (.sub (.len (.var 0)) (.var 2)))) (.cons (.int 0) .row0)) (.drop (.add (.add (.var 1) (.sub (.len (.var 0)) (.var 2))) (.sub (.len (.var 0)) (.add (.var 1) (.sub (.len (.var 0)) (.var 2))))) (.app (.take (.var 1) (.var 0)) (.app (.take (.sub (.len (.var 0)) (.var 2)) (.drop (.var 2) (.var 0))) (.drop (.add (.var 1) (.sub (.len (.var 0)) (.var 2))) (.var 0)))))))])))))))))))))
theorem run215 : run z215 6000 [.code (Try.f215.body.getD .skip),.fin (aP z215 Try.f215.results.toList 50)] { fn:=215,tmps:=z215.sig.aE ++ List.replicate (Try.f215.ntmps - z215.sig.aE.length) (.v (.one .undef)),stk:=[],h:=z215.sig.h0,nx:=z215.sig.ins.length,known:=[]}=t215:=by kernel_rfl
theorem ok215 : bJ Try.prog 215 d215.ct:=by
 refine ax (d:=d215) (Z:=z215) (Γ:=gam l215) (fn:=Try.f215) (c:=Try.f215.body.getD .skip) (aJ tok mixed all_nil aK) Try.func215 (by kernel_rfl) (by kernel_rfl) rfl run215 fun E hk hp=>?_
 obtain ⟨hk0,hk1,hk2,_⟩:=hk
 obtain ⟨l,e0,b0⟩:=fB (d:=E 0) hk0
 have b0 : l.length * 8≤140737488355328:=b0
 obtain ⟨x,e1⟩:=ok_int (d:=E 1) hk1
 obtain ⟨x2,e2⟩:=ok_int (d:=E 2) hk2
 have el : aG E d215.sig.ins.length=[aa l,.i x,.i x2]:=by
  show [E 0,E 1,E 2]=_
  rw [e0,e1,e2]
 rw [el] at hp
 rw [el]
 rw [Env.aU el]
 clear el e0 e1 e2
 simp only [d215,List.getD_cons_zero,List.getD_cons_succ,CD.aL,bz] at hp ⊢
 obtain ⟨p0,p1,p2⟩:=hp
 obtain ⟨i,rfl⟩ : ∃ i : Nat,x=i:=⟨x.toNat,by omega⟩
 obtain ⟨j,rfl⟩ : ∃ j : Nat,x2=j:=⟨x2.toNat,by omega⟩
 simp only [Int.toNat_natCast]
 unfold t215
 have hf : ∀ l : List Int,(aa l).rows=l.map fun n=>[CD.i n]:=fun _=>rfl
 refine af (by simp only [nrm,xdn,reduceIte,Nat.reduceLT,Nat.reduceSub,Nat.reduceAdd];omega) (af (by simp only [nrm,xdn,reduceIte,Nat.reduceLT,Nat.reduceSub,Nat.reduceAdd];omega) (af (by simp only [nrm,xdn,reduceIte,Nat.reduceLT,Nat.reduceSub,Nat.reduceAdd,aj];omega) (ae (fun h=>ag ?_) (fun h=>?_))))
 ·simp only [nrm,xdn,reduceIte,Nat.reduceLT,Nat.reduceSub,Nat.reduceAdd] at h ⊢
  have : i=j:=by omega
  subst this
  rw [List.take_append_drop]
 simp only [nrm,xdn,reduceIte,Nat.reduceLT,Nat.reduceSub,Nat.reduceAdd] at h
 have hij : ¬ (i : Int)=j:=by simpa using h
 repeat refine af (by simp only [nrm,xdn,reduceIte,Nat.reduceLT,Nat.reduceSub,Nat.reduceAdd,hf,List.length_take,List.length_drop,List.length_append,List.length_replicate,List.length_map];omega) ?_
 refine ag ?_
 simp only [nrm,xdn,reduceIte,Nat.reduceLT,Nat.reduceSub,Nat.reduceAdd,hf,List.length_map,Int.toNat_natCast]
 have en : ((i : Int) + ((l.length : Int) - (j : Int))).toNat=i + ((l.map fun n=>[CD.i n]).length - j):=by rw [List.length_map];omega
 have em : ((l.length : Int) - (j : Int)).toNat=(l.map fun n=>[CD.i n]).length - j:=by rw [List.length_map];omega
 rw [en,em,xR (by omega) (by rw [List.length_map];omega)]
 simp only [aa,List.map_append,List.map_take,List.map_drop]
def tsk (w : Wrd) (x : Int) : Tsk:=w.ts.getD x.toNat default
def Wrd.at (w : Wrd) (x : Int) (h : Tsk→Tsk) : Wrd:=⟨w.m,w.ts.modify x.toNat h⟩
def gy (w : Wrd) (x : Int) (c : Cal) : Wrd × Int :=
 if (tsk w x).busy=true then (w,8)
 else if bg w.m c≠0 then (w,bg w.m c)
 else if (tsk w x).held.length=100∧c.kind=1 then (w,7)
 else if c.kind=6∧c.slot ∉ (tsk w x).held then (w,6)
 else (w.at x fun t=>{ t with busy:=true,f:=dm c},0)
theorem hd_own {t : Tsk} (h : t.own=true) : t.hd=jd t.held:=by unfold Tsk.hd;rw [h];rfl
theorem er {t : Tsk} (h : t.own=true) : t.fF=t.rw (jd t.held):=by unfold Tsk.fF;rw [hd_own h]
theorem oS {α : Type} : ∀ (l : List α) (i : Nat),l.modify i (fun x=>x)=l
 | [],i=>by simp
 | _ :: _,0=>by simp
 | _ :: l,i + 1=>by simp [oS l i]
theorem cls {l : List Tsk} {r : List (List CD)} (h : CD.l r=ar l) : (r.all fun r=>!(r.getD 15 .u).isH)=true:=by
 rw [show r=(ar l).rows from congrArg CD.rows h];exact az l
theorem put_A {ts : List Tsk} {k : Nat} {t : Tsk} (ht : ts.getD k default=t) (hto : t.own=true) (b : Bool) (f : Frm) : CD.l ((ar ts).rows.modify k fun r=>((((((((((((((((r.set 15 (.o (aa t.held).rows)).set 0 (.b b)).set 1 (.i f.c.kind)).set 2 (.i f.c.k.a)).set 3 (.i f.c.k.b)).set 4 (.i f.c.time)).set 5 (.i f.c.bucket)).set 6 (.i f.c.slot)).set 7 (.i f.pc)).set 8 (.i f.cur)).set 9 (.i f.prev)).set 10 (.i f.slot)).set 11 (.i f.n)).set 12 (ba f.keys)).set 13 (.b f.done)).set 14 (.i f.e)))=ar (ts.modify k fun t=>{ t with busy:=b,f:=f}) :=
 dE (by rw [ht,er hto];simp only [Tsk.fF,Tsk.hd,hto,if_true];rfl)
theorem lM {ts : List Tsk} {k : Nat} {t : Tsk} (ht : ts.getD k default=t) (hto : t.own=true) (b : Bool) (f : Frm) : CD.l ((ar ts).rows.modify k fun r=>(((((((((((((((r.set 1 (.i f.c.kind)).set 2 (.i f.c.k.a)).set 3 (.i f.c.k.b)).set 4 (.i f.c.time)).set 5 (.i f.c.bucket)).set 6 (.i f.c.slot)).set 7 (.i f.pc)).set 8 (.i f.cur)).set 9 (.i f.prev)).set 10 (.i f.slot)).set 11 (.i f.n)).set 12 (ba f.keys)).set 13 (.b f.done)).set 14 (.i f.e)).set 0 (.b b)))=ar (ts.modify k fun t=>{ t with busy:=b,f:=f}) :=
 dE (by rw [ht,er hto];simp only [Tsk.fF,Tsk.hd,hto,if_true];rfl)
theorem put_C {ts : List Tsk} {k : Nat} {t : Tsk} (ht : ts.getD k default=t) (hto : t.own=true) (b : Bool) (f : Frm) (l : List Int) : CD.l ((ar ts).rows.modify k fun r=>((((((((((((((((r.set 1 (.i f.c.kind)).set 2 (.i f.c.k.a)).set 3 (.i f.c.k.b)).set 4 (.i f.c.time)).set 5 (.i f.c.bucket)).set 6 (.i f.c.slot)).set 7 (.i f.pc)).set 8 (.i f.cur)).set 9 (.i f.prev)).set 10 (.i f.slot)).set 11 (.i f.n)).set 12 (ba f.keys)).set 13 (.b f.done)).set 14 (.i f.e)).set 15 (.o (aa l).rows)).set 0 (.b b)))=ar (ts.modify k fun t=>{ t with busy:=b,f:=f,held:=l}) :=
 dE (by rw [ht,er hto];simp only [Tsk.fF,Tsk.hd,hto,if_true];rfl)
theorem put_D {ts : List Tsk} {k : Nat} {t : Tsk} (ht : ts.getD k default=t) (hto : t.own=true) (b : Bool) (f : Frm) (l : List Int) : CD.l ((ar ts).rows.modify k fun r=>((((((((((((((((r.set 15 (.o (aa l).rows)).set 1 (.i f.c.kind)).set 2 (.i f.c.k.a)).set 3 (.i f.c.k.b)).set 4 (.i f.c.time)).set 5 (.i f.c.bucket)).set 6 (.i f.c.slot)).set 7 (.i f.pc)).set 8 (.i f.cur)).set 9 (.i f.prev)).set 10 (.i f.slot)).set 11 (.i f.n)).set 12 (ba f.keys)).set 13 (.b f.done)).set 14 (.i f.e)).set 0 (.b b)))=ar (ts.modify k fun t=>{ t with busy:=b,f:=f,held:=l}) :=
 dE (by rw [ht,er hto];simp only [Tsk.fF,Tsk.hd,hto,if_true];rfl)
def s209 : Sig:=⟨[.ptr [.own 52 kS,.own 3 kI,.own 3 kI,.own 3 kI,.int .i64,.own 129 kTo],.one (.int .i64),.agg [.int .i64,.int .i64,.int .i64,.int .i64,.int .i64,.int .i64]],[.one (.int .i64)]⟩
def d209 : DC:=⟨s209,fun l=>0≤(l.getD 6 .u).int∧(l.getD 6 .u).int < (Wrd.of l).ts.length∧∀ t∈(Wrd.of l).ts,t.own=true,fun l=>(gy (Wrd.of l) (l.getD 6 .u).int (Cal.of (l.drop 7))).1.cds ++ [.i (gy (Wrd.of l) (l.getD 6 .u).int (Cal.of (l.drop 7))).2]⟩
theorem eQ (a : List bq) (b c d : List Int) (n : Int) (ts : List Tsk) (l : List CD) : Wrd.of (ai a :: aa b :: aa c :: aa d :: .i n :: ar ts :: l)=⟨⟨a,b,c,d,n⟩,ts⟩:=by
 simp only [Wrd.of,mem_of,List.getD_cons_zero,List.getD_cons_succ,kv]
def l209 : List (Nat × Ct):=[(40,d40.ct),(98,d98.ct),(41,d41.ct)]
def z209 : Cx:={ T:=ttA,C:=sigs l209,F:=[],hints:=[],sig:=s209}
def t209 : Tree :=
 (.need (.le (.int 0) (.var 6))
 (.need (.lt (.var 6) (.len (.var 5)))
 (.ite (.cell (.var 5) (.var 6) 0)
 (.need (.clean (.var 5) 15)
 (.ret [.var 0,.var 1,.var 2,.var 3,.var 4,.var 5,.int 8]))
 (.call 40 [.var 0,.var 1,.var 2,.var 3,.var 4,.var 7,.var 8,.var 9,.var 10,.var 11,.var 12] 13
 (.ite (.not (.eq (.var 13) (.int 0)))
 (.need (.clean (.var 5) 15)
 (.ret [.var 0,.var 1,.var 2,.var 3,.var 4,.var 5,.var 13]))
 (.need (.isO (.cell (.var 5) (.var 6) 15))
 (.ite (.eq (.len (.shut (.cell (.var 5) (.var 6) 15))) (.int 100))
 (.ite (.eq (.var 7) (.int 1))
 (.need (.clean (.set (.var 5) (.var 6) 15 (.own (.shut (.cell (.var 5) (.var 6) 15)))) 15)
 (.ret [.var 0,.var 1,.var 2,.var 3,.var 4,.set (.var 5) (.var 6) 15 (.own (.shut (.cell (.var 5) (.var 6) 15))),.int 7]))
 (.ite (.eq (.var 7) (.int 6))
 (.call 98 [.shut (.cell (.var 5) (.var 6) 15),.var 12] 14
 (.ite (.not (.var 14))
 (.need (.clean (.set (.var 5) (.var 6) 15 (.own (.shut (.cell (.var 5) (.var 6) 15)))) 15)
 (.ret [.var 0,.var 1,.var 2,.var 3,.var 4,.set (.var 5) (.var 6) 15 (.own (.shut (.cell (.var 5) (.var 6) 15))),.int 6]))
 (.call 41 [.var 7,.var 8,.var 9,.var 10,.var 11,.var 12] 15
 (.need (.clean (.set (.set (.set (.set (.set (.set (.set (.set (.set (.set (.set (.set (.set (.set (.set (.set (.var 5) (.var 6) 15 (.own (.shut (.cell (.var 5) (.var 6) 15)))) (.var 6) 0 (.bool true)) (.var 6) 1 (.var 15)) (.var 6) 2 (.var 16)) (.var 6) 3 (.var 17)) (.var 6) 4 (.var 18)) (.var 6) 5 (.var 19)) (.var 6) 6 (.var 20)) (.var 6) 7 (.var 21)) (.var 6) 8 (.var 22)) (.var 6) 9 (.var 23)) (.var 6) 10 (.var 24)) (.var 6) 11 (.var 25)) (.var 6) 12 (.var 26)) (.var 6) 13 (.var 27)) (.var 6) 14 (.var 28)) 15)
 (.ret [.var 0,.var 1,.var 2,.var 3,.var 4,.set (.set (.set (.set (.set (.set (.set (.set (.set (.set (.set (.set (.set (.set (.set (.set (.var 5) (.var 6) 15 (.own (.shut (.cell (.var 5) (.var 6) 15)))) (.var 6) 0 (.bool true)) (.var 6) 1 (.var 15)) (.var 6) 2 (.var 16)) (.var 6) 3 (.var 17)) (.var 6) 4 (.var 18)) (.var 6) 5 (.var 19)) (.var 6) 6 (.var 20)) (.var 6) 7 (.var 21)) (.var 6) 8 (.var 22)) (.var 6) 9 (.var 23)) (.var 6) 10 (.var 24)) (.var 6) 11 (.var 25)) (.var 6) 12 (.var 26)) (.var 6) 13 (.var 27)) (.var 6) 14 (.var 28),.int 0])))))
 (.call 41 [.var 7,.var 8,.var 9,.var 10,.var 11,.var 12] 14
 (.need (.clean (.set (.set (.set (.set (.set (.set (.set (.set (.set (.set (.set (.set (.set (.set (.set (.set (.var 5) (.var 6) 15 (.own (.shut (.cell (.var 5) (.var 6) 15)))) (.var 6) 0 (.bool true)) (.var 6) 1 (.var 14)) (.var 6) 2 (.var 15)) (.var 6) 3 (.var 16)) (.var 6) 4 (.var 17)) (.var 6) 5 (.var 18)) (.var 6) 6 (.var 19)) (.var 6) 7 (.var 20)) (.var 6) 8 (.var 21)) (.var 6) 9 (.var 22)) (.var 6) 10 (.var 23)) (.var 6) 11 (.var 24)) (.var 6) 12 (.var 25)) (.var 6) 13 (.var 26)) (.var 6) 14 (.var 27)) 15)
 (.ret [.var 0,.var 1,.var 2,.var 3,.var 4,.set (.set (.set (.set (.set (.set (.set (.set (.set (.set (.set (.set (.set (.set (.set (.set (.var 5) (.var 6) 15 (.own (.shut (.cell (.var 5) (.var 6) 15)))) (.var 6) 0 (.bool true)) (.var 6) 1 (.var 14)) (.var 6) 2 (.var 15)) (.var 6) 3 (.var 16)) (.var 6) 4 (.var 17)) (.var 6) 5 (.var 18)) (.var 6) 6 (.var 19)) (.var 6) 7 (.var 20)) (.var 6) 8 (.var 21)) (.var 6) 9 (.var 22)) (.var 6) 10 (.var 23)) (.var 6) 11 (.var 24)) (.var 6) 12 (.var 25)) (.var 6) 13 (.var 26)) (.var 6) 14 (.var 27),.int 0])))))
 (.ite (.eq (.var 7) (.int 6))
 (.call 98 [.shut (.cell (.var 5) (.var 6) 15),.var 12] 14
 (.ite (.not (.var 14))
 (.need (.clean (.set (.var 5) (.var 6) 15 (.own (.shut (.cell (.var 5) (.var 6) 15)))) 15)
 (.ret [.var 0,.var 1,.var 2,.var 3,.var 4,.set (.var 5) (.var 6) 15 (.own (.shut (.cell (.var 5) (.var 6) 15))),.int 6]))
 (.call 41 [.var 7,.var 8,.var 9,.var 10,.var 11,.var 12] 15
 (.need (.clean (.set (.set (.set (.set (.set (.set (.set (.set (.set (.set (.set (.set (.set (.set (.set (.set (.var 5) (.var 6) 15 (.own (.shut (.cell (.var 5) (.var 6) 15)))) (.var 6) 0 (.bool true)) (.var 6) 1 (.var 15)) (.var 6) 2 (.var 16)) (.var 6) 3 (.var 17)) (.var 6) 4 (.var 18)) (.var 6) 5 (.var 19)) (.var 6) 6 (.var 20)) (.var 6) 7 (.var 21)) (.var 6) 8 (.var 22)) (.var 6) 9 (.var 23)) (.var 6) 10 (.var 24)) (.var 6) 11 (.var 25)) (.var 6) 12 (.var 26)) (.var 6) 13 (.var 27)) (.var 6) 14 (.var 28)) 15)
 (.ret [.var 0,.var 1,.var 2,.var 3,.var 4,.set (.set (.set (.set (.set (.set (.set (.set (.set (.set (.set (.set (.set (.set (.set (.set (.var 5) (.var 6) 15 (.own (.shut (.cell (.var 5) (.var 6) 15)))) (.var 6) 0 (.bool true)) (.var 6) 1 (.var 15)) (.var 6) 2 (.var 16)) (.var 6) 3 (.var 17)) (.var 6) 4 (.var 18)) (.var 6) 5 (.var 19)) (.var 6) 6 (.var 20)) (.var 6) 7 (.var 21)) (.var 6) 8 (.var 22)) (.var 6) 9 (.var 23)) (.var 6) 10 (.var 24)) (.var 6) 11 (.var 25)) (.var 6) 12 (.var 26)) (.var 6) 13 (.var 27)) (.var 6) 14 (.var 28),.int 0])))))
 (.call 41 [.var 7,.var 8,.var 9,.var 10,.var 11,.var 12] 14
 (.need (.clean (.set (.set (.set (.set (.set (.set (.set (.set (.set (.set (.set (.set (.set (.set (.set (.set (.var 5) (.var 6) 15 (.own (.shut (.cell (.var 5) (.var 6) 15)))) (.var 6) 0 (.bool true)) (.var 6) 1 (.var 14)) (.var 6) 2 (.var 15)) (.var 6) 3 (.var 16)) (.var 6) 4 (.var 17)) (.var 6) 5 (.var 18)) (.var 6) 6 (.var 19)) (.var 6) 7 (.var 20)) (.var 6) 8 (.var 21)) (.var 6) 9 (.var 22)) (.var 6) 10 (.var 23)) (.var 6) 11 (.var 24)) (.var 6) 12 (.var 25)) (.var 6) 13 (.var 26)) (.var 6) 14 (.var 27)) 15)
 (.ret [.var 0,.var 1,.var 2,.var 3,.var 4,.set (.set (.set (.set (.set (.set (.set (.set (.set (.set (.set (.set (.set (.set (.set (.set (.var 5) (.var 6) 15 (.own (.shut (.cell (.var 5) (.var 6) 15)))) (.var 6) 0 (.bool true)) (.var 6) 1 (.var 14)) (.var 6) 2 (.var 15)) (.var 6) 3 (.var 16)) (.var 6) 4 (.var 17)) (.var 6) 5 (.var 18)) (.var 6) 6 (.var 19)) (.var 6) 7 (.var 20)) (.var 6) 8 (.var 21)) (.var 6) 9 (.var 22)) (.var 6) 10 (.var 23)) (.var 6) 11 (.var 24)) (.var 6) 12 (.var 25)) (.var 6) 13 (.var 26)) (.var 6) 14 (.var 27),.int 0])))))))))))
theorem run209 : run z209 6000 [.code (Try.f209.body.getD .skip),.fin (aP z209 Try.f209.results.toList 50)] { fn:=209,tmps:=z209.sig.aE ++ List.replicate (Try.f209.ntmps - z209.sig.aE.length) (.v (.one .undef)),stk:=[],h:=z209.sig.h0,nx:=z209.sig.ins.length,known:=[]}=t209:=by kernel_rfl
theorem ok209 : bJ Try.prog 209 d209.ct:=by
 refine ax (d:=d209) (Z:=z209) (Γ:=gam l209) (fn:=Try.f209) (c:=Try.f209.body.getD .skip) (aJ tok mixed (all_cons ok40 (all_cons ok98 (all_cons ok41 all_nil))) aK) Try.func209 (by kernel_rfl) (by kernel_rfl) rfl run209 fun E hk hp=>?_
 obtain ⟨hk0,hk1,hk2,hk3,hk4,hk5,hk6,hk7,hk8,hk9,hk10,hk11,hk12,_⟩:=hk
 obtain ⟨m,e0,e1,e2,e3,e4,b0,b1,b2,b3⟩:=bp (d0:=E 0) (d1:=E 1) (d2:=E 2) (d3:=E 3) (d4:=E 4) hk0 hk1 hk2 hk3 hk4
 obtain ⟨ts,e5,hts,b5⟩:=mB (d:=E 5) hk5
 have b5 : ts.length * 160≤140737488355328:=b5
 obtain ⟨x,e6⟩:=ok_int (d:=E 6) hk6
 obtain ⟨c,e7,e8,e9,e10,e11,e12⟩:=gB (d0:=E 7) (d1:=E 8) (d2:=E 9) (d3:=E 10) (d4:=E 11) (d5:=E 12) hk7 hk8 hk9 hk10 hk11 hk12
 have el : aG E d209.sig.ins.length=[ai m.slots,aa m.heads,aa m.free,aa m.locks,.i m.now,ar ts,.i x,.i c.kind,.i c.k.a,.i c.k.b,.i c.time,.i c.bucket,.i c.slot]:=by
  show [E 0,E 1,E 2,E 3,E 4,E 5,E 6,E 7,E 8,E 9,E 10,E 11,E 12]=_
  rw [e0,e1,e2,e3,e4,e5,e6,e7,e8,e9,e10,e11,e12]
 rw [el] at hp
 rw [el]
 rw [Env.aU el]
 clear el e0 e1 e2 e3 e4 e5 e6 e7 e8 e9 e10 e11 e12
 simp only [d209,eQ,List.getD_cons_zero,List.getD_cons_succ,CD.aL,aq,List.drop_succ_cons,List.drop_zero,dz,bF] at hp ⊢
 obtain ⟨p0,p1,p2⟩:=hp
 obtain ⟨k,rfl⟩ : ∃ k : Nat,x=k:=⟨x.toNat,by omega⟩
 have hk : k < ts.length:=by omega
 obtain ⟨t,ht⟩ : ∃ t,ts.getD k default=t:=⟨_,rfl⟩
 have hto : t.own=true:=p2 _ (ht ▸ dn hk)
 have htt : tsk ⟨m,ts⟩ k=t:=by unfold tsk;rw [Int.toNat_natCast];exact ht
 have e0 : ((ar ts).rows.getD k []).getD 0 .u=.b t.busy:=by rw [bN 0 hk,ht];rfl
 have e15 : ((ar ts).rows.getD k []).getD 15 .u=jd t.held:=by rw [bN 15 hk,ht,er hto];rfl
 have eo : (jd t.held).isO=true:=rfl
 have es : (jd t.held).shut=aa t.held:=rfl
 have h0 : CD.l ((ar ts).rows.modify k fun r=>r.set 15 (.o (aa t.held).rows))=ar ts:=by
  have:=dE (l:=ts) (i:=k) (g:=fun r=>r.set 15 (.o (aa t.held).rows)) (h:=fun t=>t) (by rw [ht,er hto];rfl)
  rw [this,oS]
 have hB:=put_A ht hto true (dm c)
 unfold gy
 rw [htt]
 unfold t209
 refine af (by simp only [nrm,xdn,reduceIte,Nat.reduceLT,Nat.reduceSub,Nat.reduceAdd];omega) (af (by simp only [nrm,xdn,reduceIte,Nat.reduceLT,Nat.reduceSub,Nat.reduceAdd,cC];omega) (ae (fun h=>?_) (fun h=>?_)))
 ·simp only [nrm,xdn,reduceIte,Nat.reduceLT,Nat.reduceSub,Nat.reduceAdd,Int.toNat_natCast,e0] at h
  rw [if_pos h]
  refine af (by simp only [nrm,xdn,reduceIte,Nat.reduceLT,Nat.reduceSub,Nat.reduceAdd];exact az ts) (ag ?_)
  simp only [nrm,xdn,reduceIte,Nat.reduceLT,Nat.reduceSub,Nat.reduceAdd,Wrd.cds,Mem.cds,lca]
 simp only [nrm,xdn,reduceIte,Nat.reduceLT,Nat.reduceSub,Nat.reduceAdd,Int.toNat_natCast,e0] at h
 rw [if_neg (by rw [h];exact Bool.false_ne_true)]
 refine ah d40 [.i (bg m c)] rfl trivial (by simp only [nrm,xdn,reduceIte,Nat.reduceLT,Nat.reduceSub,Nat.reduceAdd,d40,mem_of,aq,dz,bF,List.drop_succ_cons,List.drop_zero]) (ae (fun h1=>?_) (fun h1=>?_))
 ·simp only [nrm,xdn,reduceIte,Nat.reduceLT,Nat.reduceSub,Nat.reduceAdd] at h1
  rw [if_pos (by simpa using h1)]
  refine af (by simp only [nrm,xdn,reduceIte,Nat.reduceLT,Nat.reduceSub,Nat.reduceAdd];exact az ts) (ag ?_)
  simp only [nrm,xdn,reduceIte,Nat.reduceLT,Nat.reduceSub,Nat.reduceAdd,Wrd.cds,Mem.cds,lca]
 simp only [nrm,xdn,reduceIte,Nat.reduceLT,Nat.reduceSub,Nat.reduceAdd] at h1
 rw [if_neg (by simpa using h1)]
 refine af (by simp only [nrm,xdn,reduceIte,Nat.reduceLT,Nat.reduceSub,Nat.reduceAdd,Int.toNat_natCast,e15,eo]) (ae (fun h2=>?_) (fun h2=>?_))
 ·simp only [nrm,xdn,reduceIte,Nat.reduceLT,Nat.reduceSub,Nat.reduceAdd,Int.toNat_natCast,e15,es,aj] at h2
  refine ae (fun h3=>?_) (fun h3=>?_)
  ·simp only [nrm,xdn,reduceIte,Nat.reduceLT,Nat.reduceSub,Nat.reduceAdd] at h3
   rw [if_pos ⟨by omega,h3⟩]
   refine af (by simp only [nrm,xdn,reduceIte,Nat.reduceLT,Nat.reduceSub,Nat.reduceAdd,Int.toNat_natCast,e15,es,CD.aC];exact cls h0) (ag ?_)
   simp only [nrm,xdn,reduceIte,Nat.reduceLT,Nat.reduceSub,Nat.reduceAdd,Int.toNat_natCast,e15,es,CD.aC,h0,Wrd.cds,Mem.cds,lca]
  simp only [nrm,xdn,reduceIte,Nat.reduceLT,Nat.reduceSub,Nat.reduceAdd] at h3
  rw [if_neg (fun x=>h3 x.2)]
  refine ae (fun h3=>?_) (fun h3=>?_)
  ·simp only [nrm,xdn,reduceIte,Nat.reduceLT,Nat.reduceSub,Nat.reduceAdd] at h3
   refine ah d98 [.b (decide (c.slot∈t.held))] rfl trivial (by simp only [nrm,xdn,reduceIte,Nat.reduceLT,Nat.reduceSub,Nat.reduceAdd,Int.toNat_natCast,e15,es,d98,bz]) (ae (fun h4=>?_) (fun h4=>?_))
   ·simp only [nrm,xdn,reduceIte,Nat.reduceLT,Nat.reduceSub,Nat.reduceAdd] at h4
    have h4 : c.slot ∉ t.held:=by simpa using h4
    rw [if_pos ⟨h3,h4⟩]
    refine af (by simp only [nrm,xdn,reduceIte,Nat.reduceLT,Nat.reduceSub,Nat.reduceAdd,Int.toNat_natCast,e15,es,CD.aC];exact cls h0) (ag ?_)
    simp only [nrm,xdn,reduceIte,Nat.reduceLT,Nat.reduceSub,Nat.reduceAdd,Int.toNat_natCast,e15,es,CD.aC,h0,Wrd.cds,Mem.cds,lca]
   simp only [nrm,xdn,reduceIte,Nat.reduceLT,Nat.reduceSub,Nat.reduceAdd] at h4
   have h4 : c.slot∈t.held:=by simpa using h4
   rw [if_neg (fun x=>x.2 h4)]
   refine ah d41 (dm c).cds rfl trivial (by simp only [nrm,xdn,reduceIte,Nat.reduceLT,Nat.reduceSub,Nat.reduceAdd,d41,dz,bF]) (af ?_ (ag ?_))
   ·simp only [nrm,xdn,reduceIte,Nat.reduceLT,Nat.reduceSub,Nat.reduceAdd,Int.toNat_natCast,e15,es,CD.aC,av,Frm.cds]
    exact cls hB
   ·simp only [nrm,xdn,reduceIte,Nat.reduceLT,Nat.reduceSub,Nat.reduceAdd,Int.toNat_natCast,e15,es,CD.aC,av,Frm.cds,hB,Wrd.cds,Wrd.at,Mem.cds,lca]
  ·simp only [nrm,xdn,reduceIte,Nat.reduceLT,Nat.reduceSub,Nat.reduceAdd] at h3
   rw [if_neg (fun x=>h3 x.1)]
   refine ah d41 (dm c).cds rfl trivial (by simp only [nrm,xdn,reduceIte,Nat.reduceLT,Nat.reduceSub,Nat.reduceAdd,d41,dz,bF]) (af ?_ (ag ?_))
   ·simp only [nrm,xdn,reduceIte,Nat.reduceLT,Nat.reduceSub,Nat.reduceAdd,Int.toNat_natCast,e15,es,CD.aC,av,Frm.cds]
    exact cls hB
   ·simp only [nrm,xdn,reduceIte,Nat.reduceLT,Nat.reduceSub,Nat.reduceAdd,Int.toNat_natCast,e15,es,CD.aC,av,Frm.cds,hB,Wrd.cds,Wrd.at,Mem.cds,lca]
 ·simp only [nrm,xdn,reduceIte,Nat.reduceLT,Nat.reduceSub,Nat.reduceAdd,Int.toNat_natCast,e15,es,aj] at h2
  rw [if_neg (fun x=>h2 (by omega))]
  refine ae (fun h3=>?_) (fun h3=>?_)
  ·simp only [nrm,xdn,reduceIte,Nat.reduceLT,Nat.reduceSub,Nat.reduceAdd] at h3
   refine ah d98 [.b (decide (c.slot∈t.held))] rfl trivial (by simp only [nrm,xdn,reduceIte,Nat.reduceLT,Nat.reduceSub,Nat.reduceAdd,Int.toNat_natCast,e15,es,d98,bz]) (ae (fun h4=>?_) (fun h4=>?_))
   ·simp only [nrm,xdn,reduceIte,Nat.reduceLT,Nat.reduceSub,Nat.reduceAdd] at h4
    have h4 : c.slot ∉ t.held:=by simpa using h4
    rw [if_pos ⟨h3,h4⟩]
    refine af (by simp only [nrm,xdn,reduceIte,Nat.reduceLT,Nat.reduceSub,Nat.reduceAdd,Int.toNat_natCast,e15,es,CD.aC];exact cls h0) (ag ?_)
    simp only [nrm,xdn,reduceIte,Nat.reduceLT,Nat.reduceSub,Nat.reduceAdd,Int.toNat_natCast,e15,es,CD.aC,h0,Wrd.cds,Mem.cds,lca]
   simp only [nrm,xdn,reduceIte,Nat.reduceLT,Nat.reduceSub,Nat.reduceAdd] at h4
   have h4 : c.slot∈t.held:=by simpa using h4
   rw [if_neg (fun x=>x.2 h4)]
   refine ah d41 (dm c).cds rfl trivial (by simp only [nrm,xdn,reduceIte,Nat.reduceLT,Nat.reduceSub,Nat.reduceAdd,d41,dz,bF]) (af ?_ (ag ?_))
   ·simp only [nrm,xdn,reduceIte,Nat.reduceLT,Nat.reduceSub,Nat.reduceAdd,Int.toNat_natCast,e15,es,CD.aC,av,Frm.cds]
    exact cls hB
   ·simp only [nrm,xdn,reduceIte,Nat.reduceLT,Nat.reduceSub,Nat.reduceAdd,Int.toNat_natCast,e15,es,CD.aC,av,Frm.cds,hB,Wrd.cds,Wrd.at,Mem.cds,lca]
  ·simp only [nrm,xdn,reduceIte,Nat.reduceLT,Nat.reduceSub,Nat.reduceAdd] at h3
   rw [if_neg (fun x=>h3 x.1)]
   refine ah d41 (dm c).cds rfl trivial (by simp only [nrm,xdn,reduceIte,Nat.reduceLT,Nat.reduceSub,Nat.reduceAdd,d41,dz,bF]) (af ?_ (ag ?_))
   ·simp only [nrm,xdn,reduceIte,Nat.reduceLT,Nat.reduceSub,Nat.reduceAdd,Int.toNat_natCast,e15,es,CD.aC,av,Frm.cds]
    exact cls hB
   ·simp only [nrm,xdn,reduceIte,Nat.reduceLT,Nat.reduceSub,Nat.reduceAdd,Int.toNat_natCast,e15,es,CD.aC,av,Frm.cds,hB,Wrd.cds,Wrd.at,Mem.cds,lca]
end Go.Proofs.Ytpmamacjepcdmaa

namespace Go.Proofs.Ytpmamacjepcdmaa
open Go Go.Sy Go.RowKit
set_option linter.unusedSimpArgs false
set_option linter.unusedVariables false
def cS (n : Nat) : List Int→Int
 | []=>0
 | a :: l=>if a < 0∨(n : Int)≤a then 5 else cS n l
def cK (m : Mem) (t : Tsk) : Int :=
 if 100 < t.held.length then 2
 else if cS m.slots.length t.held≠0 then cS m.slots.length t.held
 else if t.busy=true then cD m t.f else 0
def cY (m : Mem) : List Tsk→Int
 | []=>0
 | t :: l=>if cK m t≠0 then cK m t else cY m l
def bE (w : Wrd) : Int :=
 if bY w.m≠0 then bY w.m
 else if w.ts.length < 1∨5 < w.ts.length then 3
 else cY w.m w.ts
def s157 : Sig:=⟨[.agg [.fz kS,.fz kI,.fz kI,.fz kI,.int .i64,.fz kT]],[.one (.int .i64)]⟩
def d157 : DC:=⟨s157,fun _=>True,fun l=>[.i (bE (Wrd.of l))]⟩
def l157 : List (Nat × Ct):=[(51,d51.ct),(43,d43.ct)]
noncomputable def z157 : Cx:={ T:=ttA,C:=sigs l157,F:=[(116,Try.f116),(195,Try.f195),(202,Try.f202)],hints:=[⟨157,7,false,[(26,.lt)],[],[],[],0⟩,⟨195,2,false,[(8,.lt)],[],[],[],0⟩],sig:=s157}
def t157 : Tree :=
 (.call 51 [.var 0,.var 1,.var 2,.var 3,.var 4] 6
 (.ite (.not (.eq (.var 6) (.int 0)))
 (.ret [.var 6])
 (.ite (.lt (.len (.var 5)) (.int 1))
 (.ret [.int 3])
 (.ite (.lt (.int 5) (.len (.var 5)))
 (.ret [.int 3])
 (.loop 7 [.int .i64] [.int 0]
 (.ite (.lt (.var 8) (.len (.var 5)))
 (.need (.le (.int 0) (.var 8))
 (.ite (.lt (.int 100) (.len (.cell (.var 5) (.var 8) 15)))
 (.ret [.int 2])
 (.loop 9 [.int .i64] [.int 0]
 (.ite (.lt (.var 10) (.len (.cell (.var 5) (.var 8) 15)))
 (.need (.le (.int 0) (.var 10))
 (.ite (.lt (.cell (.cell (.var 5) (.var 8) 15) (.var 10) 0) (.int 0))
 (.ret [.int 5])
 (.ite (.le (.len (.var 0)) (.cell (.cell (.var 5) (.var 8) 15) (.var 10) 0))
 (.ret [.int 5])
 (.need (.fit (.add (.var 10) (.int 1)))
 (.back 9 [.add (.var 10) (.int 1)])))))
 (.ite (.cell (.var 5) (.var 8) 0)
 (.call 43 [.var 0,.var 1,.var 2,.var 3,.var 4,.cell (.var 5) (.var 8) 1,.cell (.var 5) (.var 8) 2,.cell (.var 5) (.var 8) 3,.cell (.var 5) (.var 8) 4,.cell (.var 5) (.var 8) 5,.cell (.var 5) (.var 8) 6,.cell (.var 5) (.var 8) 7,.cell (.var 5) (.var 8) 8,.cell (.var 5) (.var 8) 9,.cell (.var 5) (.var 8) 10,.cell (.var 5) (.var 8) 11,.cell (.var 5) (.var 8) 12,.cell (.var 5) (.var 8) 13,.cell (.var 5) (.var 8) 14] 11
 (.ite (.not (.eq (.var 11) (.int 0)))
 (.ret [.var 11])
 (.need (.fit (.add (.var 8) (.int 1)))
 (.back 7 [.add (.var 8) (.int 1)]))))
 (.need (.fit (.add (.var 8) (.int 1)))
 (.back 7 [.add (.var 8) (.int 1)])))))))
 (.ret [.int 0])))))))
theorem run157 : run z157 6000 [.code (Try.f157.body.getD .skip),.fin (aP z157 Try.f157.results.toList 50)] { fn:=157,tmps:=z157.sig.aE ++ List.replicate (Try.f157.ntmps - z157.sig.aE.length) (.v (.one .undef)),stk:=[],h:=z157.sig.h0,nx:=z157.sig.ins.length,known:=[]}=t157:=by kernel_rfl
theorem ok157 : bJ Try.prog 157 d157.ct:=by
 refine ax (d:=d157) (Z:=z157) (Γ:=gam l157) (fn:=Try.f157) (c:=Try.f157.body.getD .skip) (aJ tok mixed (all_cons ok51 (all_cons ok43 all_nil)) (cv (c:=Try.f116.body.getD .skip) Try.func116 (by kernel_rfl) (by kernel_rfl) (cv (c:=Try.f195.body.getD .skip) Try.func195 (by kernel_rfl) (by kernel_rfl) (cv (c:=Try.f202.body.getD .skip) Try.func202 (by kernel_rfl) (by kernel_rfl) aK)))) Try.func157 (by kernel_rfl) (by kernel_rfl) rfl run157 fun E hk hp=>?_
 obtain ⟨hk0,hk1,hk2,hk3,hk4,hk5,_⟩:=hk
 obtain ⟨m,e0,e1,e2,e3,e4,b0,b1,b2,b3⟩:=bp (d0:=E 0) (d1:=E 1) (d2:=E 2) (d3:=E 3) (d4:=E 4) hk0 hk1 hk2 hk3 hk4
 obtain ⟨ts,e5,hts,b5⟩:=dB (d:=E 5) hk5
 have b5 : ts.length * 160≤140737488355328:=b5
 have el : aG E d157.sig.ins.length=[ai m.slots,aa m.heads,aa m.free,aa m.locks,.i m.now,aA ts]:=by
  show [E 0,E 1,E 2,E 3,E 4,E 5]=_
  rw [e0,e1,e2,e3,e4,e5]
 rw [el] at hp
 rw [el]
 rw [Env.aU el]
 clear el e0 e1 e2 e3 e4 e5
 have hown : ∀ t∈ts,t.own=false:=fun t ht=>(hts t ht).1
 have hc : d157.fn [ai m.slots,aa m.heads,aa m.free,aa m.locks,.i m.now,aA ts]=[.i (bE ⟨m,ts⟩)]:=by
  simp only [d157,Wrd.of,mem_of,aq,List.getD_cons_zero,List.getD_cons_succ,dR hown]
 rw [hc]
 unfold bE
 unfold t157
 refine ah d51 [.i (bY m)] rfl trivial (by simp only [nrm,xdn,reduceIte,Nat.reduceLT,Nat.reduceSub,Nat.reduceAdd,d51,mem_of,aq]) (ae (fun h=>ag ?_) (fun h=>?_))
 ·simp only [nrm,xdn,reduceIte,Nat.reduceLT,Nat.reduceSub,Nat.reduceAdd] at h ⊢
  rw [if_pos (by simpa using h)]
 simp only [nrm,xdn,reduceIte,Nat.reduceLT,Nat.reduceSub,Nat.reduceAdd] at h
 rw [if_neg (by simpa using h)]
 refine ae (fun h1=>ag ?_) (fun h1=>ae (fun h2=>ag ?_) (fun h2=>?_))
 ·simp only [nrm,xdn,reduceIte,Nat.reduceLT,Nat.reduceSub,Nat.reduceAdd,bO] at h1 ⊢
  rw [if_pos (by omega)]
 ·simp only [nrm,xdn,reduceIte,Nat.reduceLT,Nat.reduceSub,Nat.reduceAdd,bO] at h2 ⊢
  rw [if_pos (by omega)]
 simp only [nrm,xdn,reduceIte,Nat.reduceLT,Nat.reduceSub,Nat.reduceAdd,bO] at h1 h2
 rw [if_neg (show ¬ (ts.length < 1∨5 < ts.length) by omega)]
 refine bD (fun ds=>∃ i : Nat,ds=[.i i]∧i≤ts.length∧cY m ts=cY m (ts.drop i)) (fun ds=>ts.length - (ds.getD 0 .u).int.toNat) ⟨0,rfl,by omega,rfl⟩ ?_
 rintro ds - ⟨i,rfl,hi,hs⟩
 refine ae (fun hlt=>?_) (fun hge=>ag ?_)
 ·simp only [nrm,xdn,reduceIte,Nat.reduceLT,Nat.reduceSub,Nat.reduceAdd,bO] at hlt
  obtain ⟨t,ht⟩ : ∃ t,ts.getD i default=t:=⟨_,rfl⟩
  rw [cO (show i < ts.length by omega),ht] at hs
  have hs : cY m ts=if cK m t≠0 then cK m t else cY m (ts.drop (i + 1)):=hs
  have e0 : ((aA ts).rows.getD i []).getD 0 .u=.b t.busy:=by rw [aZ 0 (by omega),ht];rfl
  have e15 : ((aA ts).rows.getD i []).getD 15 .u=aa t.held:=by rw [aZ 15 (by omega),ht];rfl
  have bad : ∀ e : Int,e≠0→cK m t=e→[CD.i e]=[CD.i (cY m ts)]:=fun e he hx=>by rw [hs,hx,if_pos he]
  refine af (by simp only [nrm,xdn,reduceIte,Nat.reduceLT,Nat.reduceSub,Nat.reduceAdd];omega) (ae (fun h3=>ag ?_) (fun h3=>?_))
  ·simp only [nrm,xdn,reduceIte,Nat.reduceLT,Nat.reduceSub,Nat.reduceAdd,Int.toNat_natCast,e15,aj] at h3 ⊢
   exact bad 2 (by decide) (by unfold cK;rw [if_pos (by omega)])
  simp only [nrm,xdn,reduceIte,Nat.reduceLT,Nat.reduceSub,Nat.reduceAdd,Int.toNat_natCast,e15,aj] at h3
  have hh : cK m t=if cS m.slots.length t.held≠0 then cS m.slots.length t.held else if t.busy=true then cD m t.f else 0:=by unfold cK;rw [if_neg (by omega)]
  refine bD (fun ds=>∃ j : Nat,ds=[.i j]∧j≤t.held.length∧cS m.slots.length t.held=cS m.slots.length (t.held.drop j)) (fun ds=>t.held.length - (ds.getD 0 .u).int.toNat) ⟨0,rfl,by omega,rfl⟩ ?_
  rintro ds - ⟨j,rfl,hj,hq⟩
  refine ae (fun hlt'=>?_) (fun hge'=>?_)
  ·simp only [nrm,xdn,reduceIte,Nat.reduceLT,Nat.reduceSub,Nat.reduceAdd,Int.toNat_natCast,e15,aj] at hlt'
   obtain ⟨a,ha⟩ : ∃ a,t.held.getD j 0=a:=⟨_,rfl⟩
   have hd : t.held.drop j=a :: t.held.drop (j + 1):=by rw [← ha];exact cO (show j < t.held.length by omega)
   rw [hd] at hq
   have hq : cS m.slots.length t.held=if a < 0∨(m.slots.length : Int)≤a then 5 else cS m.slots.length (t.held.drop (j + 1)):=hq
   refine af (by simp only [nrm,xdn,reduceIte,Nat.reduceLT,Nat.reduceSub,Nat.reduceAdd];omega) (ae (fun h4=>ag ?_) (fun h4=>ae (fun h5=>ag ?_) (fun h5=>?_)))
   ·simp only [nrm,xdn,reduceIte,Nat.reduceLT,Nat.reduceSub,Nat.reduceAdd,Int.toNat_natCast,e15,au,ha] at h4 ⊢
    rw [if_pos (.inl h4)] at hq
    exact bad 5 (by decide) (by rw [hh,hq];rfl)
   ·simp only [nrm,xdn,reduceIte,Nat.reduceLT,Nat.reduceSub,Nat.reduceAdd,Int.toNat_natCast,e15,au,ha,aw] at h5 ⊢
    rw [if_pos (.inr h5)] at hq
    exact bad 5 (by decide) (by rw [hh,hq];rfl)
   simp only [nrm,xdn,reduceIte,Nat.reduceLT,Nat.reduceSub,Nat.reduceAdd,Int.toNat_natCast,e15,au,ha,aw] at h4 h5
   rw [if_neg (by omega)] at hq
   refine aH (by simp only [nrm,xdn,reduceIte,Nat.reduceLT,Nat.reduceSub,Nat.reduceAdd];omega) (bx ⟨⟨j + 1,?_,by omega,hq⟩,?_⟩)
   ·simp only [nrm,xdn,reduceIte,Nat.reduceLT,Nat.reduceSub,Nat.reduceAdd];rfl
   ·simp only [nrm,xdn,reduceIte,Nat.reduceLT,Nat.reduceSub,Nat.reduceAdd];omega
  ·simp only [nrm,xdn,reduceIte,Nat.reduceLT,Nat.reduceSub,Nat.reduceAdd,Int.toNat_natCast,e15,aj] at hge'
   rw [List.drop_eq_nil_of_le (show t.held.length≤j by omega)] at hq
   have hq : cS m.slots.length t.held=0:=hq
   rw [hq,if_neg (by simp)] at hh
   have e1 : ((aA ts).rows.getD i []).getD 1 .u=.i t.f.c.kind:=by rw [aZ 1 (by omega),ht];rfl
   have e2 : ((aA ts).rows.getD i []).getD 2 .u=.i t.f.c.k.a:=by rw [aZ 2 (by omega),ht];rfl
   have e3 : ((aA ts).rows.getD i []).getD 3 .u=.i t.f.c.k.b:=by rw [aZ 3 (by omega),ht];rfl
   have e4 : ((aA ts).rows.getD i []).getD 4 .u=.i t.f.c.time:=by rw [aZ 4 (by omega),ht];rfl
   have e5 : ((aA ts).rows.getD i []).getD 5 .u=.i t.f.c.bucket:=by rw [aZ 5 (by omega),ht];rfl
   have e6 : ((aA ts).rows.getD i []).getD 6 .u=.i t.f.c.slot:=by rw [aZ 6 (by omega),ht];rfl
   have e7 : ((aA ts).rows.getD i []).getD 7 .u=.i t.f.pc:=by rw [aZ 7 (by omega),ht];rfl
   have e8 : ((aA ts).rows.getD i []).getD 8 .u=.i t.f.cur:=by rw [aZ 8 (by omega),ht];rfl
   have e9 : ((aA ts).rows.getD i []).getD 9 .u=.i t.f.prev:=by rw [aZ 9 (by omega),ht];rfl
   have e10 : ((aA ts).rows.getD i []).getD 10 .u=.i t.f.slot:=by rw [aZ 10 (by omega),ht];rfl
   have e11 : ((aA ts).rows.getD i []).getD 11 .u=.i t.f.n:=by rw [aZ 11 (by omega),ht];rfl
   have e12 : ((aA ts).rows.getD i []).getD 12 .u=ba t.f.keys:=by rw [aZ 12 (by omega),ht];rfl
   have e13 : ((aA ts).rows.getD i []).getD 13 .u=.b t.f.done:=by rw [aZ 13 (by omega),ht];rfl
   have e14 : ((aA ts).rows.getD i []).getD 14 .u=.i t.f.e:=by rw [aZ 14 (by omega),ht];rfl
   refine ae (fun h6=>?_) (fun h6=>?_)
   ·simp only [nrm,xdn,reduceIte,Nat.reduceLT,Nat.reduceSub,Nat.reduceAdd,Int.toNat_natCast,e0] at h6
    rw [if_pos h6] at hh
    refine ah d43 [.i (cD m t.f)] rfl trivial (by simp only [nrm,xdn,reduceIte,Nat.reduceLT,Nat.reduceSub,Nat.reduceAdd,Int.toNat_natCast,e1,e2,e3,e4,e5,e6,e7,e8,e9,e10,e11,e12,e13,e14,d43,mem_of,aq,List.drop_succ_cons,List.drop_zero,bQ]) (ae (fun h7=>ag ?_) (fun h7=>?_))
    ·simp only [nrm,xdn,reduceIte,Nat.reduceLT,Nat.reduceSub,Nat.reduceAdd] at h7 ⊢
     exact bad _ (by simpa using h7) hh
    ·simp only [nrm,xdn,reduceIte,Nat.reduceLT,Nat.reduceSub,Nat.reduceAdd] at h7
     rw [hh,if_neg (by simpa using h7)] at hs
     refine aH (by simp only [nrm,xdn,reduceIte,Nat.reduceLT,Nat.reduceSub,Nat.reduceAdd];omega) (gf (by decide) ⟨⟨i + 1,?_,by omega,hs⟩,?_⟩)
     ·simp only [nrm,xdn,reduceIte,Nat.reduceLT,Nat.reduceSub,Nat.reduceAdd];rfl
     ·simp only [nrm,xdn,reduceIte,Nat.reduceLT,Nat.reduceSub,Nat.reduceAdd];omega
   ·simp only [nrm,xdn,reduceIte,Nat.reduceLT,Nat.reduceSub,Nat.reduceAdd,Int.toNat_natCast,e0] at h6
    rw [if_neg (by rw [h6];exact Bool.false_ne_true)] at hh
    rw [hh,if_neg (by simp)] at hs
    refine aH (by simp only [nrm,xdn,reduceIte,Nat.reduceLT,Nat.reduceSub,Nat.reduceAdd];omega) (gf (by decide) ⟨⟨i + 1,?_,by omega,hs⟩,?_⟩)
    ·simp only [nrm,xdn,reduceIte,Nat.reduceLT,Nat.reduceSub,Nat.reduceAdd];rfl
    ·simp only [nrm,xdn,reduceIte,Nat.reduceLT,Nat.reduceSub,Nat.reduceAdd];omega
 ·simp only [nrm,xdn,reduceIte,Nat.reduceLT,Nat.reduceSub,Nat.reduceAdd,bO] at hge ⊢
  rw [hs,List.drop_eq_nil_of_le (show ts.length≤i by omega)]
  rfl
def s141 : Sig:=⟨[.agg [.fz kS,.fz kI,.fz kI,.fz kI,.int .i64,.fz kT]],[.one (.int .i64)]⟩
def d141 : DC:=⟨s141,fun _=>True,fun l=>[.i (bE (Wrd.of l))]⟩
def l141 : List (Nat × Ct):=[(58,d58.ct),(46,d46.ct)]
def z141 : Cx:={ T:=ttA,C:=sigs l141,F:=[],hints:=[⟨141,7,false,[(28,.lt)],[],[],[],0⟩,⟨141,12,false,[(39,.lt)],[],[],[],0⟩],sig:=s141}
def t141 : Tree :=
 (.call 58 [.var 0,.var 1,.var 2,.var 3,.var 4] 6
 (.ite (.not (.eq (.var 6) (.int 0)))
 (.ret [.var 6])
 (.ite (.lt (.len (.var 5)) (.int 1))
 (.ret [.int 3])
 (.ite (.lt (.int 5) (.len (.var 5)))
 (.ret [.int 3])
 (.loop 7 [.int .i64] [.int 0]
 (.ite (.lt (.var 8) (.len (.var 5)))
 (.need (.le (.int 0) (.var 8))
 (.ite (.lt (.int 100) (.len (.cell (.var 5) (.var 8) 15)))
 (.ret [.int 2])
 (.loop 9 [.int .i64] [.int 0]
 (.ite (.lt (.var 10) (.len (.cell (.var 5) (.var 8) 15)))
 (.need (.le (.int 0) (.var 10))
 (.ite (.lt (.cell (.cell (.var 5) (.var 8) 15) (.var 10) 0) (.int 0))
 (.ret [.int 5])
 (.ite (.le (.len (.var 0)) (.cell (.cell (.var 5) (.var 8) 15) (.var 10) 0))
 (.ret [.int 5])
 (.need (.fit (.add (.var 10) (.int 1)))
 (.back 9 [.add (.var 10) (.int 1)])))))
 (.ite (.cell (.var 5) (.var 8) 0)
 (.call 46 [.var 0,.var 1,.var 2,.var 3,.var 4,.cell (.var 5) (.var 8) 1,.cell (.var 5) (.var 8) 2,.cell (.var 5) (.var 8) 3,.cell (.var 5) (.var 8) 4,.cell (.var 5) (.var 8) 5,.cell (.var 5) (.var 8) 6,.cell (.var 5) (.var 8) 7,.cell (.var 5) (.var 8) 8,.cell (.var 5) (.var 8) 9,.cell (.var 5) (.var 8) 10,.cell (.var 5) (.var 8) 11,.cell (.var 5) (.var 8) 12,.cell (.var 5) (.var 8) 13,.cell (.var 5) (.var 8) 14] 11
 (.ite (.not (.eq (.var 11) (.int 0)))
 (.ret [.var 11])
 (.need (.fit (.add (.var 8) (.int 1)))
 (.back 7 [.add (.var 8) (.int 1)]))))
 (.need (.fit (.add (.var 8) (.int 1)))
 (.back 7 [.add (.var 8) (.int 1)])))))))
 (.ret [.int 0])))))))
theorem run141 : run z141 6000 [.code (Try.f141.body.getD .skip),.fin (aP z141 Try.f141.results.toList 50)] { fn:=141,tmps:=z141.sig.aE ++ List.replicate (Try.f141.ntmps - z141.sig.aE.length) (.v (.one .undef)),stk:=[],h:=z141.sig.h0,nx:=z141.sig.ins.length,known:=[]}=t141:=by kernel_rfl
theorem ok141 : bJ Try.prog 141 d141.ct:=by
 refine ax (d:=d141) (Z:=z141) (Γ:=gam l141) (fn:=Try.f141) (c:=Try.f141.body.getD .skip) (aJ tok mixed (all_cons ok58 (all_cons ok46 all_nil)) aK) Try.func141 (by kernel_rfl) (by kernel_rfl) rfl run141 fun E hk hp=>?_
 obtain ⟨hk0,hk1,hk2,hk3,hk4,hk5,_⟩:=hk
 obtain ⟨m,e0,e1,e2,e3,e4,b0,b1,b2,b3⟩:=bp (d0:=E 0) (d1:=E 1) (d2:=E 2) (d3:=E 3) (d4:=E 4) hk0 hk1 hk2 hk3 hk4
 obtain ⟨ts,e5,hts,b5⟩:=dB (d:=E 5) hk5
 have b5 : ts.length * 160≤140737488355328:=b5
 have el : aG E d141.sig.ins.length=[ai m.slots,aa m.heads,aa m.free,aa m.locks,.i m.now,aA ts]:=by
  show [E 0,E 1,E 2,E 3,E 4,E 5]=_
  rw [e0,e1,e2,e3,e4,e5]
 rw [el] at hp
 rw [el]
 rw [Env.aU el]
 clear el e0 e1 e2 e3 e4 e5
 have hown : ∀ t∈ts,t.own=false:=fun t ht=>(hts t ht).1
 have hc : d141.fn [ai m.slots,aa m.heads,aa m.free,aa m.locks,.i m.now,aA ts]=[.i (bE ⟨m,ts⟩)]:=by
  simp only [d141,Wrd.of,mem_of,aq,List.getD_cons_zero,List.getD_cons_succ,dR hown]
 rw [hc]
 unfold bE
 unfold t141
 refine ah d58 [.i (bY m)] rfl trivial (by simp only [nrm,xdn,reduceIte,Nat.reduceLT,Nat.reduceSub,Nat.reduceAdd,d58,mem_of,aq]) (ae (fun h=>ag ?_) (fun h=>?_))
 ·simp only [nrm,xdn,reduceIte,Nat.reduceLT,Nat.reduceSub,Nat.reduceAdd] at h ⊢
  rw [if_pos (by simpa using h)]
 simp only [nrm,xdn,reduceIte,Nat.reduceLT,Nat.reduceSub,Nat.reduceAdd] at h
 rw [if_neg (by simpa using h)]
 refine ae (fun h1=>ag ?_) (fun h1=>ae (fun h2=>ag ?_) (fun h2=>?_))
 ·simp only [nrm,xdn,reduceIte,Nat.reduceLT,Nat.reduceSub,Nat.reduceAdd,bO] at h1 ⊢
  rw [if_pos (by omega)]
 ·simp only [nrm,xdn,reduceIte,Nat.reduceLT,Nat.reduceSub,Nat.reduceAdd,bO] at h2 ⊢
  rw [if_pos (by omega)]
 simp only [nrm,xdn,reduceIte,Nat.reduceLT,Nat.reduceSub,Nat.reduceAdd,bO] at h1 h2
 rw [if_neg (show ¬ (ts.length < 1∨5 < ts.length) by omega)]
 refine bD (fun ds=>∃ i : Nat,ds=[.i i]∧i≤ts.length∧cY m ts=cY m (ts.drop i)) (fun ds=>ts.length - (ds.getD 0 .u).int.toNat) ⟨0,rfl,by omega,rfl⟩ ?_
 rintro ds - ⟨i,rfl,hi,hs⟩
 refine ae (fun hlt=>?_) (fun hge=>ag ?_)
 ·simp only [nrm,xdn,reduceIte,Nat.reduceLT,Nat.reduceSub,Nat.reduceAdd,bO] at hlt
  obtain ⟨t,ht⟩ : ∃ t,ts.getD i default=t:=⟨_,rfl⟩
  rw [cO (show i < ts.length by omega),ht] at hs
  have hs : cY m ts=if cK m t≠0 then cK m t else cY m (ts.drop (i + 1)):=hs
  have e0 : ((aA ts).rows.getD i []).getD 0 .u=.b t.busy:=by rw [aZ 0 (by omega),ht];rfl
  have e15 : ((aA ts).rows.getD i []).getD 15 .u=aa t.held:=by rw [aZ 15 (by omega),ht];rfl
  have bad : ∀ e : Int,e≠0→cK m t=e→[CD.i e]=[CD.i (cY m ts)]:=fun e he hx=>by rw [hs,hx,if_pos he]
  refine af (by simp only [nrm,xdn,reduceIte,Nat.reduceLT,Nat.reduceSub,Nat.reduceAdd];omega) (ae (fun h3=>ag ?_) (fun h3=>?_))
  ·simp only [nrm,xdn,reduceIte,Nat.reduceLT,Nat.reduceSub,Nat.reduceAdd,Int.toNat_natCast,e15,aj] at h3 ⊢
   exact bad 2 (by decide) (by unfold cK;rw [if_pos (by omega)])
  simp only [nrm,xdn,reduceIte,Nat.reduceLT,Nat.reduceSub,Nat.reduceAdd,Int.toNat_natCast,e15,aj] at h3
  have hh : cK m t=if cS m.slots.length t.held≠0 then cS m.slots.length t.held else if t.busy=true then cD m t.f else 0:=by unfold cK;rw [if_neg (by omega)]
  refine bD (fun ds=>∃ j : Nat,ds=[.i j]∧j≤t.held.length∧cS m.slots.length t.held=cS m.slots.length (t.held.drop j)) (fun ds=>t.held.length - (ds.getD 0 .u).int.toNat) ⟨0,rfl,by omega,rfl⟩ ?_
  rintro ds - ⟨j,rfl,hj,hq⟩
  refine ae (fun hlt'=>?_) (fun hge'=>?_)
  ·simp only [nrm,xdn,reduceIte,Nat.reduceLT,Nat.reduceSub,Nat.reduceAdd,Int.toNat_natCast,e15,aj] at hlt'
   obtain ⟨a,ha⟩ : ∃ a,t.held.getD j 0=a:=⟨_,rfl⟩
   have hd : t.held.drop j=a :: t.held.drop (j + 1):=by rw [← ha];exact cO (show j < t.held.length by omega)
   rw [hd] at hq
   have hq : cS m.slots.length t.held=if a < 0∨(m.slots.length : Int)≤a then 5 else cS m.slots.length (t.held.drop (j + 1)):=hq
   refine af (by simp only [nrm,xdn,reduceIte,Nat.reduceLT,Nat.reduceSub,Nat.reduceAdd];omega) (ae (fun h4=>ag ?_) (fun h4=>ae (fun h5=>ag ?_) (fun h5=>?_)))
   ·simp only [nrm,xdn,reduceIte,Nat.reduceLT,Nat.reduceSub,Nat.reduceAdd,Int.toNat_natCast,e15,au,ha] at h4 ⊢
    rw [if_pos (.inl h4)] at hq
    exact bad 5 (by decide) (by rw [hh,hq];rfl)
   ·simp only [nrm,xdn,reduceIte,Nat.reduceLT,Nat.reduceSub,Nat.reduceAdd,Int.toNat_natCast,e15,au,ha,aw] at h5 ⊢
    rw [if_pos (.inr h5)] at hq
    exact bad 5 (by decide) (by rw [hh,hq];rfl)
   simp only [nrm,xdn,reduceIte,Nat.reduceLT,Nat.reduceSub,Nat.reduceAdd,Int.toNat_natCast,e15,au,ha,aw] at h4 h5
   rw [if_neg (by omega)] at hq
   refine aH (by simp only [nrm,xdn,reduceIte,Nat.reduceLT,Nat.reduceSub,Nat.reduceAdd];omega) (bx ⟨⟨j + 1,?_,by omega,hq⟩,?_⟩)
   ·simp only [nrm,xdn,reduceIte,Nat.reduceLT,Nat.reduceSub,Nat.reduceAdd];rfl
   ·simp only [nrm,xdn,reduceIte,Nat.reduceLT,Nat.reduceSub,Nat.reduceAdd];omega
  ·simp only [nrm,xdn,reduceIte,Nat.reduceLT,Nat.reduceSub,Nat.reduceAdd,Int.toNat_natCast,e15,aj] at hge'
   rw [List.drop_eq_nil_of_le (show t.held.length≤j by omega)] at hq
   have hq : cS m.slots.length t.held=0:=hq
   rw [hq,if_neg (by simp)] at hh
   have e1 : ((aA ts).rows.getD i []).getD 1 .u=.i t.f.c.kind:=by rw [aZ 1 (by omega),ht];rfl
   have e2 : ((aA ts).rows.getD i []).getD 2 .u=.i t.f.c.k.a:=by rw [aZ 2 (by omega),ht];rfl
   have e3 : ((aA ts).rows.getD i []).getD 3 .u=.i t.f.c.k.b:=by rw [aZ 3 (by omega),ht];rfl
   have e4 : ((aA ts).rows.getD i []).getD 4 .u=.i t.f.c.time:=by rw [aZ 4 (by omega),ht];rfl
   have e5 : ((aA ts).rows.getD i []).getD 5 .u=.i t.f.c.bucket:=by rw [aZ 5 (by omega),ht];rfl
   have e6 : ((aA ts).rows.getD i []).getD 6 .u=.i t.f.c.slot:=by rw [aZ 6 (by omega),ht];rfl
   have e7 : ((aA ts).rows.getD i []).getD 7 .u=.i t.f.pc:=by rw [aZ 7 (by omega),ht];rfl
   have e8 : ((aA ts).rows.getD i []).getD 8 .u=.i t.f.cur:=by rw [aZ 8 (by omega),ht];rfl
   have e9 : ((aA ts).rows.getD i []).getD 9 .u=.i t.f.prev:=by rw [aZ 9 (by omega),ht];rfl
   have e10 : ((aA ts).rows.getD i []).getD 10 .u=.i t.f.slot:=by rw [aZ 10 (by omega),ht];rfl
   have e11 : ((aA ts).rows.getD i []).getD 11 .u=.i t.f.n:=by rw [aZ 11 (by omega),ht];rfl
   have e12 : ((aA ts).rows.getD i []).getD 12 .u=ba t.f.keys:=by rw [aZ 12 (by omega),ht];rfl
   have e13 : ((aA ts).rows.getD i []).getD 13 .u=.b t.f.done:=by rw [aZ 13 (by omega),ht];rfl
   have e14 : ((aA ts).rows.getD i []).getD 14 .u=.i t.f.e:=by rw [aZ 14 (by omega),ht];rfl
   refine ae (fun h6=>?_) (fun h6=>?_)
   ·simp only [nrm,xdn,reduceIte,Nat.reduceLT,Nat.reduceSub,Nat.reduceAdd,Int.toNat_natCast,e0] at h6
    rw [if_pos h6] at hh
    refine ah d46 [.i (cD m t.f)] rfl trivial (by simp only [nrm,xdn,reduceIte,Nat.reduceLT,Nat.reduceSub,Nat.reduceAdd,Int.toNat_natCast,e1,e2,e3,e4,e5,e6,e7,e8,e9,e10,e11,e12,e13,e14,d46,mem_of,aq,List.drop_succ_cons,List.drop_zero,bQ]) (ae (fun h7=>ag ?_) (fun h7=>?_))
    ·simp only [nrm,xdn,reduceIte,Nat.reduceLT,Nat.reduceSub,Nat.reduceAdd] at h7 ⊢
     exact bad _ (by simpa using h7) hh
    ·simp only [nrm,xdn,reduceIte,Nat.reduceLT,Nat.reduceSub,Nat.reduceAdd] at h7
     rw [hh,if_neg (by simpa using h7)] at hs
     refine aH (by simp only [nrm,xdn,reduceIte,Nat.reduceLT,Nat.reduceSub,Nat.reduceAdd];omega) (gf (by decide) ⟨⟨i + 1,?_,by omega,hs⟩,?_⟩)
     ·simp only [nrm,xdn,reduceIte,Nat.reduceLT,Nat.reduceSub,Nat.reduceAdd];rfl
     ·simp only [nrm,xdn,reduceIte,Nat.reduceLT,Nat.reduceSub,Nat.reduceAdd];omega
   ·simp only [nrm,xdn,reduceIte,Nat.reduceLT,Nat.reduceSub,Nat.reduceAdd,Int.toNat_natCast,e0] at h6
    rw [if_neg (by rw [h6];exact Bool.false_ne_true)] at hh
    rw [hh,if_neg (by simp)] at hs
    refine aH (by simp only [nrm,xdn,reduceIte,Nat.reduceLT,Nat.reduceSub,Nat.reduceAdd];omega) (gf (by decide) ⟨⟨i + 1,?_,by omega,hs⟩,?_⟩)
    ·simp only [nrm,xdn,reduceIte,Nat.reduceLT,Nat.reduceSub,Nat.reduceAdd];rfl
    ·simp only [nrm,xdn,reduceIte,Nat.reduceLT,Nat.reduceSub,Nat.reduceAdd];omega
 ·simp only [nrm,xdn,reduceIte,Nat.reduceLT,Nat.reduceSub,Nat.reduceAdd,bO] at hge ⊢
  rw [hs,List.drop_eq_nil_of_le (show ts.length≤i by omega)]
  rfl
end Go.Proofs.Ytpmamacjepcdmaa
