import Derived.Test.YtpmamacjepcdmaaCDelete
import Derived.Test.YtpmamacjepcdmaaCStep
namespace Go.Proofs.Ytpmamacjepcdmaa
open Go Go.Sy Go.RowKit
set_option linter.unusedSimpArgs false
set_option linter.unusedVariables false
def s215 : Sig:=⟨[.one (.own 3 kI),.one (.int .i64),.one (.int .i64)],[.one (.own 3 kI)]⟩
def d215 : DC:=⟨s215,fun l=>0≤(l.getD 1 .u).int∧(l.getD 1 .u).int≤(l.getD 2 .u).int∧(l.getD 2 .u).int≤(l.getD 0 .u).ints.length,fun l=>[af ((l.getD 0 .u).ints.take (l.getD 1 .u).int.toNat ++ (l.getD 0 .u).ints.drop (l.getD 2 .u).int.toNat)]⟩
def l215 : List (Nat × Ct):=[]
def z215 : Cx:={ T:=ttA,C:=sigs l215,F:=[],hints:=[],sig:=s215}
def t215 : Tree :=
 (.need (.le (.int 0) (.var 1))
 (.need (.le (.var 1) (.var 2))
 (.need (.le (.var 2) (.len (.var 0)))
 (.ite (.eq (.var 1) (.var 2))
 (.ret [.var 0])
 (.need (.le (.var 1) (.len (.var 0)))
 (.need (.le (.int 0) (.var 2))
 (.need (.le (.add (.var 1) (.sub (.len (.var 0)) (.var 2))) (.len (.var 0)))
 (.need (.le (.add (.var 2) (.sub (.len (.var 0)) (.var 2))) (.len (.var 0)))
 (.need (.le (.int 0) (.add (.var 1) (.sub (.len (.var 0)) (.var 2))))
 (.need (.le (.len (.var 0)) (.add (.len (.take (.var 1) (.var 0))) (.add (.len (.take (.sub (.len (.var 0)) (.var 2)) (.drop (.var 2) (.var 0)))) (.len (.drop (.add (.var 1) (.sub (.len (.var 0)) (.var 2))) (.var 0))))))
 (.need (.le (.add (.add (.var 1) (.sub (.len (.var 0)) (.var 2))) (.sub (.len (.var 0)) (.add (.var 1) (.sub (.len (.var 0)) (.var 2))))) (.add (.len (.take (.var 1) (.var 0))) (.add (.len (.take (.sub (.len (.var 0)) (.var 2)) (.drop (.var 2) (.var 0)))) (.len (.drop (.add (.var 1) (.sub (.len (.var 0)) (.var 2))) (.var 0))))))
 (.need (.le (.add (.var 1) (.sub (.len (.var 0)) (.var 2))) (.add (.len (.take (.add (.var 1) (.sub (.len (.var 0)) (.var 2))) (.app (.take (.var 1) (.var 0)) (.app (.take (.sub (.len (.var 0)) (.var 2)) (.drop (.var 2) (.var 0))) (.drop (.add (.var 1) (.sub (.len (.var 0)) (.var 2))) (.var 0)))))) (.add (.len (.rep (.sub (.len (.var 0)) (.add (.var 1) (.sub (.len (.var 0)) (.var 2)))) (.cons (.int 0) .row0))) (.len (.drop (.add (.add (.var 1) (.sub (.len (.var 0)) (.var 2))) (.sub (.len (.var 0)) (.add (.var 1) (.sub (.len (.var 0)) (.var 2))))) (.app (.take (.var 1) (.var 0)) (.app (.take (.sub (.len (.var 0)) (.var 2)) (.drop (.var 2) (.var 0))) (.drop (.add (.var 1) (.sub (.len (.var 0)) (.var 2))) (.var 0)))))))))
 (.ret [.take (.add (.var 1) (.sub (.len (.var 0)) (.var 2))) (.app (.take (.add (.var 1) (.sub (.len (.var 0)) (.var 2))) (.app (.take (.var 1) (.var 0)) (.app (.take (.sub (.len (.var 0)) (.var 2)) (.drop (.var 2) (.var 0))) (.drop (.add (.var 1) (.sub (.len (.var 0)) (.var 2))) (.var 0))))) (.app (.rep (.sub (.len (.var 0)) (.add (.var 1) (.sub (.len (.var 0)) (.var 2)))) (.cons (.int 0) .row0)) (.drop (.add (.add (.var 1) (.sub (.len (.var 0)) (.var 2))) (.sub (.len (.var 0)) (.add (.var 1) (.sub (.len (.var 0)) (.var 2))))) (.app (.take (.var 1) (.var 0)) (.app (.take (.sub (.len (.var 0)) (.var 2)) (.drop (.var 2) (.var 0))) (.drop (.add (.var 1) (.sub (.len (.var 0)) (.var 2))) (.var 0)))))))])))))))))))))
theorem run215 : run z215 6000 [.code (Try.f215.body.getD .skip),.fin (bt z215 Try.f215.results.toList 50)] { fn:=215,tmps:=z215.sig.aM ++ List.replicate (Try.f215.ntmps - z215.sig.aM.length) (.v (.one .undef)),stk:=[],h:=z215.sig.h0,nx:=z215.sig.ins.length,known:=[]}=t215:=by kernel_rfl
theorem ok215 : cB Try.prog 215 d215.ct:=by
 refine aD (d:=d215) (Z:=z215) (Γ:=gam l215) (fn:=Try.f215) (c:=Try.f215.body.getD .skip) (bg tok mixed all_nil bh) Try.func215 (by kernel_rfl) (by kernel_rfl) rfl run215 fun E hk hp=>?_
 obtain ⟨hk0,hk1,hk2,_⟩:=hk
 obtain ⟨l,e0,b0⟩:=iL (d:=E 0) hk0
 have b0 : l.length * 8≤140737488355328:=b0
 obtain ⟨x,e1⟩:=ok_int (d:=E 1) hk1
 obtain ⟨x2,e2⟩:=ok_int (d:=E 2) hk2
 have el : aH E d215.sig.ins.length=[af l,.i x,.i x2]:=by
  show [E 0,E 1,E 2]=_
  rw [e0,e1,e2]
 rw [el] at hp
 rw [el]
 rw [Env.bJ el]
 clear el e0 e1 e2
 simp only [d215,List.getD_cons_zero,List.getD_cons_succ,CD.aR,bY] at hp ⊢
 obtain ⟨p0,p1,p2⟩:=hp
 obtain ⟨i,rfl⟩ : ∃ i : Nat,x=i:=⟨x.toNat,by omega⟩
 obtain ⟨j,rfl⟩ : ∃ j : Nat,x2=j:=⟨x2.toNat,by omega⟩
 simp only [Int.toNat_natCast]
 unfold t215
 have hf : ∀ l : List Int,(af l).rows=l.map fun n=>[CD.i n]:=fun _=>rfl
 refine ag (by simp only [nrm,xdn,reduceIte,Nat.reduceLT,Nat.reduceSub,Nat.reduceAdd];omega) (ag (by simp only [nrm,xdn,reduceIte,Nat.reduceLT,Nat.reduceSub,Nat.reduceAdd];omega) (ag (by simp only [nrm,xdn,reduceIte,Nat.reduceLT,Nat.reduceSub,Nat.reduceAdd,aw];omega) (G0 (fun h=>aj ?_) (fun h=>?_))))
 ·simp only [nrm,xdn,reduceIte,Nat.reduceLT,Nat.reduceSub,Nat.reduceAdd] at h ⊢
  have : i=j:=by omega
  subst this
  rw [List.take_append_drop]
 simp only [nrm,xdn,reduceIte,Nat.reduceLT,Nat.reduceSub,Nat.reduceAdd] at h
 have hij : ¬ (i : Int)=j:=by simpa using h
 repeat refine ag (by simp only [nrm,xdn,reduceIte,Nat.reduceLT,Nat.reduceSub,Nat.reduceAdd,hf,List.length_take,List.length_drop,List.length_append,List.length_replicate,List.length_map];omega) ?_
 refine aj ?_
 simp only [nrm,xdn,reduceIte,Nat.reduceLT,Nat.reduceSub,Nat.reduceAdd,hf,List.length_map,Int.toNat_natCast]
 have en : ((i : Int) + ((l.length : Int) - (j : Int))).toNat=i + ((l.map fun n=>[CD.i n]).length - j):=by rw [List.length_map];omega
 have em : ((l.length : Int) - (j : Int)).toNat=(l.map fun n=>[CD.i n]).length - j:=by rw [List.length_map];omega
 rw [en,em,x8 (by omega) (by rw [List.length_map];omega)]
 simp only [af,List.map_append,List.map_take,List.map_drop]
def tsk (w : Wrd) (x : Int) : Tsk:=w.ts.getD x.toNat default
def Wrd.at (w : Wrd) (x : Int) (h : Tsk→Tsk) : Wrd:=⟨w.m,w.ts.modify x.toNat h⟩
def eR (w : Wrd) (x : Int) (c : Cal) : Wrd × Int :=
 if (tsk w x).busy=true then (w,8)
 else if bf w.m c≠0 then (w,bf w.m c)
 else if (tsk w x).held.length=100∧c.kind=1 then (w,7)
 else if c.kind=6∧c.slot ∉ (tsk w x).held then (w,6)
 else (w.at x fun t=>{ t with busy:=true,f:=aX c},0)
theorem hd_own {t : Tsk} (h : t.own=true) : t.hd=o8 t.held:=by unfold Tsk.hd;rw [h];rfl
theorem gZ {t : Tsk} (h : t.own=true) : t.iv=t.rw (o8 t.held):=by unfold Tsk.iv;rw [hd_own h]
theorem sX {α : Type} : ∀ (l : List α) (i : Nat),l.modify i (fun x=>x)=l
 | [],i=>by simp
 | _ :: _,0=>by simp
 | _ :: l,i + 1=>by simp [sX l i]
theorem cls {l : List Tsk} {r : List (List CD)} (h : CD.l r=az l) : (r.all fun r=>!(r.getD 15 .u).isH)=true:=by
 rw [show r=(az l).rows from congrArg CD.rows h];exact aI l
theorem put_A {ts : List Tsk} {k : Nat} {t : Tsk} (ht : ts.getD k default=t) (hto : t.own=true) (b : Bool) (f : Frm) : CD.l ((az ts).rows.modify k fun r=>((((((((((((((((r.set 15 (.o (af t.held).rows)).set 0 (.b b)).set 1 (.i f.c.kind)).set 2 (.i f.c.k.a)).set 3 (.i f.c.k.b)).set 4 (.i f.c.time)).set 5 (.i f.c.bucket)).set 6 (.i f.c.slot)).set 7 (.i f.pc)).set 8 (.i f.cur)).set 9 (.i f.prev)).set 10 (.i f.slot)).set 11 (.i f.n)).set 12 (bS f.keys)).set 13 (.b f.done)).set 14 (.i f.e)))=az (ts.modify k fun t=>{ t with busy:=b,f:=f}) :=
 gH (by rw [ht,gZ hto];simp only [Tsk.iv,Tsk.hd,hto,if_true];rfl)
theorem Jo {ts : List Tsk} {k : Nat} {t : Tsk} (ht : ts.getD k default=t) (hto : t.own=true) (b : Bool) (f : Frm) : CD.l ((az ts).rows.modify k fun r=>(((((((((((((((r.set 1 (.i f.c.kind)).set 2 (.i f.c.k.a)).set 3 (.i f.c.k.b)).set 4 (.i f.c.time)).set 5 (.i f.c.bucket)).set 6 (.i f.c.slot)).set 7 (.i f.pc)).set 8 (.i f.cur)).set 9 (.i f.prev)).set 10 (.i f.slot)).set 11 (.i f.n)).set 12 (bS f.keys)).set 13 (.b f.done)).set 14 (.i f.e)).set 0 (.b b)))=az (ts.modify k fun t=>{ t with busy:=b,f:=f}) :=
 gH (by rw [ht,gZ hto];simp only [Tsk.iv,Tsk.hd,hto,if_true];rfl)
theorem put_C {ts : List Tsk} {k : Nat} {t : Tsk} (ht : ts.getD k default=t) (hto : t.own=true) (b : Bool) (f : Frm) (l : List Int) : CD.l ((az ts).rows.modify k fun r=>((((((((((((((((r.set 1 (.i f.c.kind)).set 2 (.i f.c.k.a)).set 3 (.i f.c.k.b)).set 4 (.i f.c.time)).set 5 (.i f.c.bucket)).set 6 (.i f.c.slot)).set 7 (.i f.pc)).set 8 (.i f.cur)).set 9 (.i f.prev)).set 10 (.i f.slot)).set 11 (.i f.n)).set 12 (bS f.keys)).set 13 (.b f.done)).set 14 (.i f.e)).set 15 (.o (af l).rows)).set 0 (.b b)))=az (ts.modify k fun t=>{ t with busy:=b,f:=f,held:=l}) :=
 gH (by rw [ht,gZ hto];simp only [Tsk.iv,Tsk.hd,hto,if_true];rfl)
theorem put_D {ts : List Tsk} {k : Nat} {t : Tsk} (ht : ts.getD k default=t) (hto : t.own=true) (b : Bool) (f : Frm) (l : List Int) : CD.l ((az ts).rows.modify k fun r=>((((((((((((((((r.set 15 (.o (af l).rows)).set 1 (.i f.c.kind)).set 2 (.i f.c.k.a)).set 3 (.i f.c.k.b)).set 4 (.i f.c.time)).set 5 (.i f.c.bucket)).set 6 (.i f.c.slot)).set 7 (.i f.pc)).set 8 (.i f.cur)).set 9 (.i f.prev)).set 10 (.i f.slot)).set 11 (.i f.n)).set 12 (bS f.keys)).set 13 (.b f.done)).set 14 (.i f.e)).set 0 (.b b)))=az (ts.modify k fun t=>{ t with busy:=b,f:=f,held:=l}) :=
 gH (by rw [ht,gZ hto];simp only [Tsk.iv,Tsk.hd,hto,if_true];rfl)
def s209 : Sig:=⟨[.ptr [.own 52 kS,.own 3 kI,.own 3 kI,.own 3 kI,.int .i64,.own 129 kTo],.one (.int .i64),.agg [.int .i64,.int .i64,.int .i64,.int .i64,.int .i64,.int .i64]],[.one (.int .i64)]⟩
def d209 : DC:=⟨s209,fun l=>0≤(l.getD 6 .u).int∧(l.getD 6 .u).int < (Wrd.of l).ts.length∧∀ t∈(Wrd.of l).ts,t.own=true,fun l=>(eR (Wrd.of l) (l.getD 6 .u).int (Cal.of (l.drop 7))).1.cds ++ [.i (eR (Wrd.of l) (l.getD 6 .u).int (Cal.of (l.drop 7))).2]⟩
theorem fX (a : List bp) (b c d : List Int) (n : Int) (ts : List Tsk) (l : List CD) : Wrd.of (au a :: af b :: af c :: af d :: .i n :: az ts :: l)=⟨⟨a,b,c,d,n⟩,ts⟩:=by
 simp only [Wrd.of,mem_of,List.getD_cons_zero,List.getD_cons_succ,jH]
def l209 : List (Nat × Ct):=[(40,d40.ct),(98,d98.ct),(41,d41.ct)]
def z209 : Cx:={ T:=ttA,C:=sigs l209,F:=[],hints:=[],sig:=s209}
def t209 : Tree :=
 (.need (.le (.int 0) (.var 6))
 (.need (.lt (.var 6) (.len (.var 5)))
 (.ite (.cell (.var 5) (.var 6) 0)
 (.need (.clean (.var 5) 15)
 (.ret [.var 0,.var 1,.var 2,.var 3,.var 4,.var 5,.int 8]))
 (.call 40 [.var 0,.var 1,.var 2,.var 3,.var 4,.var 7,.var 8,.var 9,.var 10,.var 11,.var 12] 13
 (.ite (.not (.eq (.var 13) (.int 0)))
 (.need (.clean (.var 5) 15)
 (.ret [.var 0,.var 1,.var 2,.var 3,.var 4,.var 5,.var 13]))
 (.need (.isO (.cell (.var 5) (.var 6) 15))
 (.ite (.eq (.len (.shut (.cell (.var 5) (.var 6) 15))) (.int 100))
 (.ite (.eq (.var 7) (.int 1))
 (.need (.clean (.set (.var 5) (.var 6) 15 (.own (.shut (.cell (.var 5) (.var 6) 15)))) 15)
 (.ret [.var 0,.var 1,.var 2,.var 3,.var 4,.set (.var 5) (.var 6) 15 (.own (.shut (.cell (.var 5) (.var 6) 15))),.int 7]))
 (.ite (.eq (.var 7) (.int 6))
 (.call 98 [.shut (.cell (.var 5) (.var 6) 15),.var 12] 14
 (.ite (.not (.var 14))
 (.need (.clean (.set (.var 5) (.var 6) 15 (.own (.shut (.cell (.var 5) (.var 6) 15)))) 15)
 (.ret [.var 0,.var 1,.var 2,.var 3,.var 4,.set (.var 5) (.var 6) 15 (.own (.shut (.cell (.var 5) (.var 6) 15))),.int 6]))
 (.call 41 [.var 7,.var 8,.var 9,.var 10,.var 11,.var 12] 15
 (.need (.clean (.set (.set (.set (.set (.set (.set (.set (.set (.set (.set (.set (.set (.set (.set (.set (.set (.var 5) (.var 6) 15 (.own (.shut (.cell (.var 5) (.var 6) 15)))) (.var 6) 0 (.bool true)) (.var 6) 1 (.var 15)) (.var 6) 2 (.var 16)) (.var 6) 3 (.var 17)) (.var 6) 4 (.var 18)) (.var 6) 5 (.var 19)) (.var 6) 6 (.var 20)) (.var 6) 7 (.var 21)) (.var 6) 8 (.var 22)) (.var 6) 9 (.var 23)) (.var 6) 10 (.var 24)) (.var 6) 11 (.var 25)) (.var 6) 12 (.var 26)) (.var 6) 13 (.var 27)) (.var 6) 14 (.var 28)) 15)
 (.ret [.var 0,.var 1,.var 2,.var 3,.var 4,.set (.set (.set (.set (.set (.set (.set (.set (.set (.set (.set (.set (.set (.set (.set (.set (.var 5) (.var 6) 15 (.own (.shut (.cell (.var 5) (.var 6) 15)))) (.var 6) 0 (.bool true)) (.var 6) 1 (.var 15)) (.var 6) 2 (.var 16)) (.var 6) 3 (.var 17)) (.var 6) 4 (.var 18)) (.var 6) 5 (.var 19)) (.var 6) 6 (.var 20)) (.var 6) 7 (.var 21)) (.var 6) 8 (.var 22)) (.var 6) 9 (.var 23)) (.var 6) 10 (.var 24)) (.var 6) 11 (.var 25)) (.var 6) 12 (.var 26)) (.var 6) 13 (.var 27)) (.var 6) 14 (.var 28),.int 0])))))
 (.call 41 [.var 7,.var 8,.var 9,.var 10,.var 11,.var 12] 14
 (.need (.clean (.set (.set (.set (.set (.set (.set (.set (.set (.set (.set (.set (.set (.set (.set (.set (.set (.var 5) (.var 6) 15 (.own (.shut (.cell (.var 5) (.var 6) 15)))) (.var 6) 0 (.bool true)) (.var 6) 1 (.var 14)) (.var 6) 2 (.var 15)) (.var 6) 3 (.var 16)) (.var 6) 4 (.var 17)) (.var 6) 5 (.var 18)) (.var 6) 6 (.var 19)) (.var 6) 7 (.var 20)) (.var 6) 8 (.var 21)) (.var 6) 9 (.var 22)) (.var 6) 10 (.var 23)) (.var 6) 11 (.var 24)) (.var 6) 12 (.var 25)) (.var 6) 13 (.var 26)) (.var 6) 14 (.var 27)) 15)
 (.ret [.var 0,.var 1,.var 2,.var 3,.var 4,.set (.set (.set (.set (.set (.set (.set (.set (.set (.set (.set (.set (.set (.set (.set (.set (.var 5) (.var 6) 15 (.own (.shut (.cell (.var 5) (.var 6) 15)))) (.var 6) 0 (.bool true)) (.var 6) 1 (.var 14)) (.var 6) 2 (.var 15)) (.var 6) 3 (.var 16)) (.var 6) 4 (.var 17)) (.var 6) 5 (.var 18)) (.var 6) 6 (.var 19)) (.var 6) 7 (.var 20)) (.var 6) 8 (.var 21)) (.var 6) 9 (.var 22)) (.var 6) 10 (.var 23)) (.var 6) 11 (.var 24)) (.var 6) 12 (.var 25)) (.var 6) 13 (.var 26)) (.var 6) 14 (.var 27),.int 0])))))
 (.ite (.eq (.var 7) (.int 6))
 (.call 98 [.shut (.cell (.var 5) (.var 6) 15),.var 12] 14
 (.ite (.not (.var 14))
 (.need (.clean (.set (.var 5) (.var 6) 15 (.own (.shut (.cell (.var 5) (.var 6) 15)))) 15)
 (.ret [.var 0,.var 1,.var 2,.var 3,.var 4,.set (.var 5) (.var 6) 15 (.own (.shut (.cell (.var 5) (.var 6) 15))),.int 6]))
 (.call 41 [.var 7,.var 8,.var 9,.var 10,.var 11,.var 12] 15
 (.need (.clean (.set (.set (.set (.set (.set (.set (.set (.set (.set (.set (.set (.set (.set (.set (.set (.set (.var 5) (.var 6) 15 (.own (.shut (.cell (.var 5) (.var 6) 15)))) (.var 6) 0 (.bool true)) (.var 6) 1 (.var 15)) (.var 6) 2 (.var 16)) (.var 6) 3 (.var 17)) (.var 6) 4 (.var 18)) (.var 6) 5 (.var 19)) (.var 6) 6 (.var 20)) (.var 6) 7 (.var 21)) (.var 6) 8 (.var 22)) (.var 6) 9 (.var 23)) (.var 6) 10 (.var 24)) (.var 6) 11 (.var 25)) (.var 6) 12 (.var 26)) (.var 6) 13 (.var 27)) (.var 6) 14 (.var 28)) 15)
 (.ret [.var 0,.var 1,.var 2,.var 3,.var 4,.set (.set (.set (.set (.set (.set (.set (.set (.set (.set (.set (.set (.set (.set (.set (.set (.var 5) (.var 6) 15 (.own (.shut (.cell (.var 5) (.var 6) 15)))) (.var 6) 0 (.bool true)) (.var 6) 1 (.var 15)) (.var 6) 2 (.var 16)) (.var 6) 3 (.var 17)) (.var 6) 4 (.var 18)) (.var 6) 5 (.var 19)) (.var 6) 6 (.var 20)) (.var 6) 7 (.var 21)) (.var 6) 8 (.var 22)) (.var 6) 9 (.var 23)) (.var 6) 10 (.var 24)) (.var 6) 11 (.var 25)) (.var 6) 12 (.var 26)) (.var 6) 13 (.var 27)) (.var 6) 14 (.var 28),.int 0])))))
 (.call 41 [.var 7,.var 8,.var 9,.var 10,.var 11,.var 12] 14
 (.need (.clean (.set (.set (.set (.set (.set (.set (.set (.set (.set (.set (.set (.set (.set (.set (.set (.set (.var 5) (.var 6) 15 (.own (.shut (.cell (.var 5) (.var 6) 15)))) (.var 6) 0 (.bool true)) (.var 6) 1 (.var 14)) (.var 6) 2 (.var 15)) (.var 6) 3 (.var 16)) (.var 6) 4 (.var 17)) (.var 6) 5 (.var 18)) (.var 6) 6 (.var 19)) (.var 6) 7 (.var 20)) (.var 6) 8 (.var 21)) (.var 6) 9 (.var 22)) (.var 6) 10 (.var 23)) (.var 6) 11 (.var 24)) (.var 6) 12 (.var 25)) (.var 6) 13 (.var 26)) (.var 6) 14 (.var 27)) 15)
 (.ret [.var 0,.var 1,.var 2,.var 3,.var 4,.set (.set (.set (.set (.set (.set (.set (.set (.set (.set (.set (.set (.set (.set (.set (.set (.var 5) (.var 6) 15 (.own (.shut (.cell (.var 5) (.var 6) 15)))) (.var 6) 0 (.bool true)) (.var 6) 1 (.var 14)) (.var 6) 2 (.var 15)) (.var 6) 3 (.var 16)) (.var 6) 4 (.var 17)) (.var 6) 5 (.var 18)) (.var 6) 6 (.var 19)) (.var 6) 7 (.var 20)) (.var 6) 8 (.var 21)) (.var 6) 9 (.var 22)) (.var 6) 10 (.var 23)) (.var 6) 11 (.var 24)) (.var 6) 12 (.var 25)) (.var 6) 13 (.var 26)) (.var 6) 14 (.var 27),.int 0])))))))))))
theorem run209 : run z209 6000 [.code (Try.f209.body.getD .skip),.fin (bt z209 Try.f209.results.toList 50)] { fn:=209,tmps:=z209.sig.aM ++ List.replicate (Try.f209.ntmps - z209.sig.aM.length) (.v (.one .undef)),stk:=[],h:=z209.sig.h0,nx:=z209.sig.ins.length,known:=[]}=t209:=by kernel_rfl
theorem ok209 : cB Try.prog 209 d209.ct:=by
 refine aD (d:=d209) (Z:=z209) (Γ:=gam l209) (fn:=Try.f209) (c:=Try.f209.body.getD .skip) (bg tok mixed (all_cons ok40 (all_cons ok98 (all_cons ok41 all_nil))) bh) Try.func209 (by kernel_rfl) (by kernel_rfl) rfl run209 fun E hk hp=>?_
 obtain ⟨hk0,hk1,hk2,hk3,hk4,hk5,hk6,hk7,hk8,hk9,hk10,hk11,hk12,_⟩:=hk
 obtain ⟨m,e0,e1,e2,e3,e4,b0,b1,b2,b3⟩:=cv (d0:=E 0) (d1:=E 1) (d2:=E 2) (d3:=E 3) (d4:=E 4) hk0 hk1 hk2 hk3 hk4
 obtain ⟨ts,e5,hts,b5⟩:=qf (d:=E 5) hk5
 have b5 : ts.length * 160≤140737488355328:=b5
 obtain ⟨x,e6⟩:=ok_int (d:=E 6) hk6
 obtain ⟨c,e7,e8,e9,e10,e11,e12⟩:=kR (d0:=E 7) (d1:=E 8) (d2:=E 9) (d3:=E 10) (d4:=E 11) (d5:=E 12) hk7 hk8 hk9 hk10 hk11 hk12
 have el : aH E d209.sig.ins.length=[au m.slots,af m.heads,af m.free,af m.ae,.i m.now,az ts,.i x,.i c.kind,.i c.k.a,.i c.k.b,.i c.time,.i c.bucket,.i c.slot]:=by
  show [E 0,E 1,E 2,E 3,E 4,E 5,E 6,E 7,E 8,E 9,E 10,E 11,E 12]=_
  rw [e0,e1,e2,e3,e4,e5,e6,e7,e8,e9,e10,e11,e12]
 rw [el] at hp
 rw [el]
 rw [Env.bJ el]
 clear el e0 e1 e2 e3 e4 e5 e6 e7 e8 e9 e10 e11 e12
 simp only [d209,fX,List.getD_cons_zero,List.getD_cons_succ,CD.aR,aA,List.drop_succ_cons,List.drop_zero,fG,cz] at hp ⊢
 obtain ⟨p0,p1,p2⟩:=hp
 obtain ⟨k,rfl⟩ : ∃ k : Nat,x=k:=⟨x.toNat,by omega⟩
 have hk : k < ts.length:=by omega
 obtain ⟨t,ht⟩ : ∃ t,ts.getD k default=t:=⟨_,rfl⟩
 have hto : t.own=true:=p2 _ (ht ▸ fc hk)
 have htt : tsk ⟨m,ts⟩ k=t:=by unfold tsk;rw [Int.toNat_natCast];exact ht
 have e0 : ((az ts).rows.getD k []).getD 0 .u=.b t.busy:=by rw [cO 0 hk,ht];rfl
 have e15 : ((az ts).rows.getD k []).getD 15 .u=o8 t.held:=by rw [cO 15 hk,ht,gZ hto];rfl
 have eo : (o8 t.held).isO=true:=rfl
 have es : (o8 t.held).shut=af t.held:=rfl
 have h0 : CD.l ((az ts).rows.modify k fun r=>r.set 15 (.o (af t.held).rows))=az ts:=by
  have:=gH (l:=ts) (i:=k) (g:=fun r=>r.set 15 (.o (af t.held).rows)) (h:=fun t=>t) (by rw [ht,gZ hto];rfl)
  rw [this,sX]
 have hB:=put_A ht hto true (aX c)
 unfold eR
 rw [htt]
 unfold t209
 refine ag (by simp only [nrm,xdn,reduceIte,Nat.reduceLT,Nat.reduceSub,Nat.reduceAdd];omega) (ag (by simp only [nrm,xdn,reduceIte,Nat.reduceLT,Nat.reduceSub,Nat.reduceAdd,eK];omega) (G0 (fun h=>?_) (fun h=>?_)))
 ·simp only [nrm,xdn,reduceIte,Nat.reduceLT,Nat.reduceSub,Nat.reduceAdd,Int.toNat_natCast,e0] at h
  rw [if_pos h]
  refine ag (by simp only [nrm,xdn,reduceIte,Nat.reduceLT,Nat.reduceSub,Nat.reduceAdd];exact aI ts) (aj ?_)
  simp only [nrm,xdn,reduceIte,Nat.reduceLT,Nat.reduceSub,Nat.reduceAdd,Wrd.cds,Mem.cds,lca]
 simp only [nrm,xdn,reduceIte,Nat.reduceLT,Nat.reduceSub,Nat.reduceAdd,Int.toNat_natCast,e0] at h
 rw [if_neg (by rw [h];exact Bool.false_ne_true)]
 refine ai d40 [.i (bf m c)] rfl trivial (by simp only [nrm,xdn,reduceIte,Nat.reduceLT,Nat.reduceSub,Nat.reduceAdd,d40,mem_of,aA,fG,cz,List.drop_succ_cons,List.drop_zero]) (G0 (fun h1=>?_) (fun h1=>?_))
 ·simp only [nrm,xdn,reduceIte,Nat.reduceLT,Nat.reduceSub,Nat.reduceAdd] at h1
  rw [if_pos (by simpa using h1)]
  refine ag (by simp only [nrm,xdn,reduceIte,Nat.reduceLT,Nat.reduceSub,Nat.reduceAdd];exact aI ts) (aj ?_)
  simp only [nrm,xdn,reduceIte,Nat.reduceLT,Nat.reduceSub,Nat.reduceAdd,Wrd.cds,Mem.cds,lca]
 simp only [nrm,xdn,reduceIte,Nat.reduceLT,Nat.reduceSub,Nat.reduceAdd] at h1
 rw [if_neg (by simpa using h1)]
 refine ag (by simp only [nrm,xdn,reduceIte,Nat.reduceLT,Nat.reduceSub,Nat.reduceAdd,Int.toNat_natCast,e15,eo]) (G0 (fun h2=>?_) (fun h2=>?_))
 ·simp only [nrm,xdn,reduceIte,Nat.reduceLT,Nat.reduceSub,Nat.reduceAdd,Int.toNat_natCast,e15,es,aw] at h2
  refine G0 (fun h3=>?_) (fun h3=>?_)
  ·simp only [nrm,xdn,reduceIte,Nat.reduceLT,Nat.reduceSub,Nat.reduceAdd] at h3
   rw [if_pos ⟨by omega,h3⟩]
   refine ag (by simp only [nrm,xdn,reduceIte,Nat.reduceLT,Nat.reduceSub,Nat.reduceAdd,Int.toNat_natCast,e15,es,CD.ax];exact cls h0) (aj ?_)
   simp only [nrm,xdn,reduceIte,Nat.reduceLT,Nat.reduceSub,Nat.reduceAdd,Int.toNat_natCast,e15,es,CD.ax,h0,Wrd.cds,Mem.cds,lca]
  simp only [nrm,xdn,reduceIte,Nat.reduceLT,Nat.reduceSub,Nat.reduceAdd] at h3
  rw [if_neg (fun x=>h3 x.2)]
  refine G0 (fun h3=>?_) (fun h3=>?_)
  ·simp only [nrm,xdn,reduceIte,Nat.reduceLT,Nat.reduceSub,Nat.reduceAdd] at h3
   refine ai d98 [.b (decide (c.slot∈t.held))] rfl trivial (by simp only [nrm,xdn,reduceIte,Nat.reduceLT,Nat.reduceSub,Nat.reduceAdd,Int.toNat_natCast,e15,es,d98,bY]) (G0 (fun h4=>?_) (fun h4=>?_))
   ·simp only [nrm,xdn,reduceIte,Nat.reduceLT,Nat.reduceSub,Nat.reduceAdd] at h4
    have h4 : c.slot ∉ t.held:=by simpa using h4
    rw [if_pos ⟨h3,h4⟩]
    refine ag (by simp only [nrm,xdn,reduceIte,Nat.reduceLT,Nat.reduceSub,Nat.reduceAdd,Int.toNat_natCast,e15,es,CD.ax];exact cls h0) (aj ?_)
    simp only [nrm,xdn,reduceIte,Nat.reduceLT,Nat.reduceSub,Nat.reduceAdd,Int.toNat_natCast,e15,es,CD.ax,h0,Wrd.cds,Mem.cds,lca]
   simp only [nrm,xdn,reduceIte,Nat.reduceLT,Nat.reduceSub,Nat.reduceAdd] at h4
   have h4 : c.slot∈t.held:=by simpa using h4
   rw [if_neg (fun x=>x.2 h4)]
   refine ai d41 (aX c).cds rfl trivial (by simp only [nrm,xdn,reduceIte,Nat.reduceLT,Nat.reduceSub,Nat.reduceAdd,d41,fG,cz]) (ag ?_ (aj ?_))
   ·simp only [nrm,xdn,reduceIte,Nat.reduceLT,Nat.reduceSub,Nat.reduceAdd,Int.toNat_natCast,e15,es,CD.ax,aC,Frm.cds]
    exact cls hB
   ·simp only [nrm,xdn,reduceIte,Nat.reduceLT,Nat.reduceSub,Nat.reduceAdd,Int.toNat_natCast,e15,es,CD.ax,aC,Frm.cds,hB,Wrd.cds,Wrd.at,Mem.cds,lca]
  ·simp only [nrm,xdn,reduceIte,Nat.reduceLT,Nat.reduceSub,Nat.reduceAdd] at h3
   rw [if_neg (fun x=>h3 x.1)]
   refine ai d41 (aX c).cds rfl trivial (by simp only [nrm,xdn,reduceIte,Nat.reduceLT,Nat.reduceSub,Nat.reduceAdd,d41,fG,cz]) (ag ?_ (aj ?_))
   ·simp only [nrm,xdn,reduceIte,Nat.reduceLT,Nat.reduceSub,Nat.reduceAdd,Int.toNat_natCast,e15,es,CD.ax,aC,Frm.cds]
    exact cls hB
   ·simp only [nrm,xdn,reduceIte,Nat.reduceLT,Nat.reduceSub,Nat.reduceAdd,Int.toNat_natCast,e15,es,CD.ax,aC,Frm.cds,hB,Wrd.cds,Wrd.at,Mem.cds,lca]
 ·simp only [nrm,xdn,reduceIte,Nat.reduceLT,Nat.reduceSub,Nat.reduceAdd,Int.toNat_natCast,e15,es,aw] at h2
  rw [if_neg (fun x=>h2 (by omega))]
  refine G0 (fun h3=>?_) (fun h3=>?_)
  ·simp only [nrm,xdn,reduceIte,Nat.reduceLT,Nat.reduceSub,Nat.reduceAdd] at h3
   refine ai d98 [.b (decide (c.slot∈t.held))] rfl trivial (by simp only [nrm,xdn,reduceIte,Nat.reduceLT,Nat.reduceSub,Nat.reduceAdd,Int.toNat_natCast,e15,es,d98,bY]) (G0 (fun h4=>?_) (fun h4=>?_))
   ·simp only [nrm,xdn,reduceIte,Nat.reduceLT,Nat.reduceSub,Nat.reduceAdd] at h4
    have h4 : c.slot ∉ t.held:=by simpa using h4
    rw [if_pos ⟨h3,h4⟩]
    refine ag (by simp only [nrm,xdn,reduceIte,Nat.reduceLT,Nat.reduceSub,Nat.reduceAdd,Int.toNat_natCast,e15,es,CD.ax];exact cls h0) (aj ?_)
    simp only [nrm,xdn,reduceIte,Nat.reduceLT,Nat.reduceSub,Nat.reduceAdd,Int.toNat_natCast,e15,es,CD.ax,h0,Wrd.cds,Mem.cds,lca]
   simp only [nrm,xdn,reduceIte,Nat.reduceLT,Nat.reduceSub,Nat.reduceAdd] at h4
   have h4 : c.slot∈t.held:=by simpa using h4
   rw [if_neg (fun x=>x.2 h4)]
   refine ai d41 (aX c).cds rfl trivial (by simp only [nrm,xdn,reduceIte,Nat.reduceLT,Nat.reduceSub,Nat.reduceAdd,d41,fG,cz]) (ag ?_ (aj ?_))
   ·simp only [nrm,xdn,reduceIte,Nat.reduceLT,Nat.reduceSub,Nat.reduceAdd,Int.toNat_natCast,e15,es,CD.ax,aC,Frm.cds]
    exact cls hB
   ·simp only [nrm,xdn,reduceIte,Nat.reduceLT,Nat.reduceSub,Nat.reduceAdd,Int.toNat_natCast,e15,es,CD.ax,aC,Frm.cds,hB,Wrd.cds,Wrd.at,Mem.cds,lca]
  ·simp only [nrm,xdn,reduceIte,Nat.reduceLT,Nat.reduceSub,Nat.reduceAdd] at h3
   rw [if_neg (fun x=>h3 x.1)]
   refine ai d41 (aX c).cds rfl trivial (by simp only [nrm,xdn,reduceIte,Nat.reduceLT,Nat.reduceSub,Nat.reduceAdd,d41,fG,cz]) (ag ?_ (aj ?_))
   ·simp only [nrm,xdn,reduceIte,Nat.reduceLT,Nat.reduceSub,Nat.reduceAdd,Int.toNat_natCast,e15,es,CD.ax,aC,Frm.cds]
    exact cls hB
   ·simp only [nrm,xdn,reduceIte,Nat.reduceLT,Nat.reduceSub,Nat.reduceAdd,Int.toNat_natCast,e15,es,CD.ax,aC,Frm.cds,hB,Wrd.cds,Wrd.at,Mem.cds,lca]
end Go.Proofs.Ytpmamacjepcdmaa

namespace Go.Proofs.Ytpmamacjepcdmaa
open Go Go.Sy Go.RowKit
set_option linter.unusedSimpArgs false
set_option linter.unusedVariables false
def s101 : Sig:=⟨[.ptr [.own 52 kS,.own 3 kI,.own 3 kI,.own 3 kI,.int .i64],.agg [.int .i64,.int .i64,.int .i64,.int .i64,.int .i64,.int .i64,.int .i64,.int .i64,.int .i64,.int .i64,.int .i64,.fz kK,.bool,.int .i64]],[.agg [.int .i64,.int .i64,.int .i64,.int .i64,.int .i64,.int .i64,.int .i64,.int .i64,.int .i64,.int .i64,.int .i64,.fz kK,.bool,.int .i64]]⟩
def d101 : DC:=⟨s101,fun l=>aZ (Mem.of l)∧bV (Mem.of l) (Frm.of (l.drop 5))∧(Frm.of (l.drop 5)).c.kind=1,fun l=>(ar (Mem.of l) (Frm.of (l.drop 5))).2.cds ++ (ar (Mem.of l) (Frm.of (l.drop 5))).1.cds⟩
theorem fn101 (m : Mem) (f : Frm) : d101.fn [au m.slots,af m.heads,af m.free,af m.ae,.i m.now,.i f.c.kind,.i f.c.k.a,.i f.c.k.b,.i f.c.time,.i f.c.bucket,.i f.c.slot,.i f.pc,.i f.cur,.i f.prev,.i f.slot,.i f.n,bS f.keys,.b f.done,.i f.e]=(ar m f).2.cds ++ (ar m f).1.cds:=by
 simp only [d101,mem_of,aA,List.drop_succ_cons,List.drop_zero,dJ]
theorem pi101 {m : Mem} {f : Frm} (hm : aZ m) (hf : bV m f) (hk : f.c.kind=1) : d101.pre [au m.slots,af m.heads,af m.free,af m.ae,.i m.now,.i f.c.kind,.i f.c.k.a,.i f.c.k.b,.i f.c.time,.i f.c.bucket,.i f.c.slot,.i f.pc,.i f.cur,.i f.prev,.i f.slot,.i f.n,bS f.keys,.b f.done,.i f.e]:=by
 simp only [d101,mem_of,aA,List.drop_succ_cons,List.drop_zero,dJ]
 exact ⟨hm,hf,hk⟩
def l101 : List (Nat × Ct):=[(48,d48.ct),(166,d166.ct),(44,d44.ct),(167,d167.ct)]
def z101 : Cx:={ T:=ttA,C:=sigs l101,F:=[],hints:=[],sig:=s101}
def t101 : Tree :=
 (.call 48 [.var 0,.var 1,.var 2,.var 3,.var 4,.var 5,.var 6,.var 7,.var 8,.var 9,.var 10] 19
 (.ite (.eq (.var 11) (.int 2))
 (.ite (.le (.var 12) (.int 0))
 (.ret [.var 0,.var 1,.var 2,.var 3,.var 4,.var 5,.var 6,.var 7,.var 8,.var 9,.var 10,.int 0,.var 12,.var 13,.var 14,.var 15,.var 16,.var 17,.var 18])
 (.need (.fit (.sub (.var 12) (.int 1)))
 (.need (.le (.int 0) (.sub (.var 12) (.int 1)))
 (.need (.lt (.sub (.var 12) (.int 1)) (.len (.var 0)))
 (.ret [.var 0,.var 1,.var 2,.var 3,.var 4,.var 5,.var 6,.var 7,.var 8,.var 9,.var 10,.int 1,.cell (.var 0) (.sub (.var 12) (.int 1)) 5,.var 13,.var 14,.var 15,.var 16,.var 17,.var 18])))))
 (.ite (.eq (.var 11) (.int 3))
 (.ite (.le (.var 12) (.int 0))
 (.ret [.var 0,.var 1,.var 2,.var 3,.var 4,.var 5,.var 6,.var 7,.var 8,.var 9,.var 10,.int 0,.var 12,.var 13,.var 14,.var 15,.var 16,.var 17,.var 18])
 (.need (.fit (.sub (.var 12) (.int 1)))
 (.call 166 [.var 0,.var 1,.var 2,.var 3,.var 4,.sub (.var 12) (.int 1)] 20
 (.ite (.var 25)
 (.ret [.var 20,.var 21,.var 22,.var 23,.var 24,.var 5,.var 6,.var 7,.var 8,.var 9,.var 10,.int 4,.var 12,.var 13,.sub (.var 12) (.int 1),.var 15,.var 16,.var 17,.var 18])
 (.ret [.var 20,.var 21,.var 22,.var 23,.var 24,.var 5,.var 6,.var 7,.var 8,.var 9,.var 10,.int 0,.var 12,.var 13,.var 14,.var 15,.var 16,.var 17,.var 18])))))
 (.ite (.eq (.var 11) (.int 4))
 (.ite (.lt (.var 14) (.int 0))
 (.ret [.var 0,.var 1,.var 2,.var 3,.var 4,.var 5,.var 6,.var 7,.var 8,.var 9,.var 10,.int 0,.var 12,.var 13,.var 14,.var 15,.var 16,.var 17,.var 18])
 (.need (.le (.int 0) (.var 14))
 (.need (.lt (.var 14) (.len (.var 0)))
 (.ite (.not (.and (.eq (.cell (.var 0) (.var 14) 1) (.var 6)) (.and (.eq (.cell (.var 0) (.var 14) 2) (.var 7)) (.bool true))))
 (.ret [.var 0,.var 1,.var 2,.var 3,.var 4,.var 5,.var 6,.var 7,.var 8,.var 9,.var 10,.int 5,.var 12,.var 13,.var 14,.var 15,.var 16,.var 17,.var 18])
 (.ite (.not (.cell (.var 0) (.var 14) 4))
 (.ret [.var 0,.var 1,.var 2,.var 3,.var 4,.var 5,.var 6,.var 7,.var 8,.var 9,.var 10,.int 5,.var 12,.var 13,.var 14,.var 15,.var 16,.var 17,.var 18])
 (.ite (.le (.cell (.var 0) (.var 14) 3) (.var 4))
 (.ret [.var 0,.var 1,.var 2,.var 3,.var 4,.var 5,.var 6,.var 7,.var 8,.var 9,.var 10,.int 6,.var 12,.var 13,.var 14,.var 15,.var 16,.var 17,.var 18])
 (.call 44 [.var 5,.var 6,.var 7,.var 8,.var 9,.var 10,.var 11,.var 12,.var 13,.var 14,.var 15,.var 16,.var 17,.var 18,.int 0] 20
 (.ret [.var 0,.var 1,.var 2,.var 3,.var 4,.var 20,.var 21,.var 22,.var 23,.var 24,.var 25,.var 26,.var 27,.var 28,.var 29,.var 30,.var 31,.var 32,.var 33]))))))))
 (.ite (.eq (.var 11) (.int 5))
 (.ite (.lt (.var 14) (.int 0))
 (.ret [.var 0,.var 1,.var 2,.var 3,.var 4,.var 5,.var 6,.var 7,.var 8,.var 9,.var 10,.int 0,.var 12,.var 13,.var 14,.var 15,.var 16,.var 17,.var 18])
 (.call 167 [.var 0,.var 1,.var 2,.var 3,.var 4,.var 14] 20
 (.ret [.var 20,.var 21,.var 22,.var 23,.var 24,.var 5,.var 6,.var 7,.var 8,.var 9,.var 10,.int 0,.var 12,.var 13,.int (-1),.var 15,.var 16,.var 17,.var 18])))
 (.ite (.eq (.var 11) (.int 6))
 (.ite (.lt (.var 14) (.int 0))
 (.ret [.var 0,.var 1,.var 2,.var 3,.var 4,.var 5,.var 6,.var 7,.var 8,.var 9,.var 10,.int 0,.var 12,.var 13,.var 14,.var 15,.var 16,.var 17,.var 18])
 (.call 167 [.var 0,.var 1,.var 2,.var 3,.var 4,.var 14] 20
 (.call 44 [.var 5,.var 6,.var 7,.var 8,.var 9,.var 10,.var 11,.var 12,.var 13,.int (-1),.var 15,.var 16,.var 17,.var 18,.int 5] 25
 (.ret [.var 20,.var 21,.var 22,.var 23,.var 24,.var 25,.var 26,.var 27,.var 28,.var 29,.var 30,.var 31,.var 32,.var 33,.var 34,.var 35,.var 36,.var 37,.var 38]))))
 (.ite (.lt (.int 6) (.var 11))
 (.ret [.var 0,.var 1,.var 2,.var 3,.var 4,.var 5,.var 6,.var 7,.var 8,.var 9,.var 10,.int 0,.var 12,.var 13,.var 14,.var 15,.var 16,.var 17,.var 18])
 (.ite (.eq (.var 11) (.int 0))
 (.need (.le (.int 0) (.var 19))
 (.need (.lt (.var 19) (.len (.var 1)))
 (.ret [.var 0,.var 1,.var 2,.var 3,.var 4,.var 5,.var 6,.var 7,.var 8,.var 9,.var 10,.int 1,.cell (.var 1) (.var 19) 0,.var 13,.var 14,.var 15,.var 16,.var 17,.var 18])))
 (.ite (.eq (.var 11) (.int 1))
 (.need (.fit (.sub (.int (-1)) (.var 19)))
 (.ite (.eq (.var 12) (.sub (.int (-1)) (.var 19)))
 (.call 44 [.var 5,.var 6,.var 7,.var 8,.var 9,.var 10,.var 11,.var 12,.var 13,.var 14,.var 15,.var 16,.var 17,.var 18,.int 5] 20
 (.ret [.var 0,.var 1,.var 2,.var 3,.var 4,.var 20,.var 21,.var 22,.var 23,.var 24,.var 25,.var 26,.var 27,.var 28,.var 29,.var 30,.var 31,.var 32,.var 33]))
 (.ite (.le (.var 12) (.int 0))
 (.ret [.var 0,.var 1,.var 2,.var 3,.var 4,.var 5,.var 6,.var 7,.var 8,.var 9,.var 10,.int 0,.var 12,.var 13,.var 14,.var 15,.var 16,.var 17,.var 18])
 (.need (.fit (.sub (.var 12) (.int 1)))
 (.need (.le (.int 0) (.sub (.var 12) (.int 1)))
 (.need (.lt (.sub (.var 12) (.int 1)) (.len (.var 0)))
 (.ite (.and (.eq (.cell (.var 0) (.sub (.var 12) (.int 1)) 1) (.var 6)) (.and (.eq (.cell (.var 0) (.sub (.var 12) (.int 1)) 2) (.var 7)) (.bool true)))
 (.ret [.var 0,.var 1,.var 2,.var 3,.var 4,.var 5,.var 6,.var 7,.var 8,.var 9,.var 10,.int 3,.var 12,.var 13,.var 14,.var 15,.var 16,.var 17,.var 18])
 (.ret [.var 0,.var 1,.var 2,.var 3,.var 4,.var 5,.var 6,.var 7,.var 8,.var 9,.var 10,.int 2,.var 12,.var 13,.var 14,.var 15,.var 16,.var 17,.var 18]))))))))
 (.ret [.var 0,.var 1,.var 2,.var 3,.var 4,.var 5,.var 6,.var 7,.var 8,.var 9,.var 10,.var 11,.var 12,.var 13,.var 14,.var 15,.var 16,.var 17,.var 18]))))))))))
theorem run101 : run z101 6000 [.code (Try.f101.body.getD .skip),.fin (bt z101 Try.f101.results.toList 50)] { fn:=101,tmps:=z101.sig.aM ++ List.replicate (Try.f101.ntmps - z101.sig.aM.length) (.v (.one .undef)),stk:=[],h:=z101.sig.h0,nx:=z101.sig.ins.length,known:=[]}=t101:=by kernel_rfl
set_option maxHeartbeats 16000000 in
theorem ok101 : cB Try.prog 101 d101.ct:=by
 refine aD (d:=d101) (Z:=z101) (Γ:=gam l101) (fn:=Try.f101) (c:=Try.f101.body.getD .skip) (bg tok mixed (all_cons ok48 (all_cons ok166 (all_cons ok44 (all_cons ok167 all_nil)))) bh) Try.func101 (by kernel_rfl) (by kernel_rfl) rfl run101 fun E hk hp=>?_
 obtain ⟨hk0,hk1,hk2,hk3,hk4,hk5,hk6,hk7,hk8,hk9,hk10,hk11,hk12,hk13,hk14,hk15,hk16,hk17,hk18,_⟩:=hk
 obtain ⟨m,e0,e1,e2,e3,e4,b0,b1,b2,b3⟩:=cv (d0:=E 0) (d1:=E 1) (d2:=E 2) (d3:=E 3) (d4:=E 4) hk0 hk1 hk2 hk3 hk4
 obtain ⟨f,e5,e6,e7,e8,e9,e10,e11,e12,e13,e14,e15,e16,e17,e18,b16⟩:=ja (d0:=E 5) (d1:=E 6) (d2:=E 7) (d3:=E 8) (d4:=E 9) (d5:=E 10) (d6:=E 11) (d7:=E 12) (d8:=E 13) (d9:=E 14) (d10:=E 15) (d11:=E 16) (d12:=E 17) (d13:=E 18) hk5 hk6 hk7 hk8 hk9 hk10 hk11 hk12 hk13 hk14 hk15 hk16 hk17 hk18
 have el : aH E d101.sig.ins.length=[au m.slots,af m.heads,af m.free,af m.ae,.i m.now,.i f.c.kind,.i f.c.k.a,.i f.c.k.b,.i f.c.time,.i f.c.bucket,.i f.c.slot,.i f.pc,.i f.cur,.i f.prev,.i f.slot,.i f.n,bS f.keys,.b f.done,.i f.e]:=by
  show [E 0,E 1,E 2,E 3,E 4,E 5,E 6,E 7,E 8,E 9,E 10,E 11,E 12,E 13,E 14,E 15,E 16,E 17,E 18]=_
  rw [e0,e1,e2,e3,e4,e5,e6,e7,e8,e9,e10,e11,e12,e13,e14,e15,e16,e17,e18]
 rw [el] at hp
 rw [el]
 rw [Env.bJ el]
 clear el e0 e1 e2 e3 e4 e5 e6 e7 e8 e9 e10 e11 e12 e13 e14 e15 e16 e17 e18
 rw [fn101]
 simp only [d101,mem_of,aA,List.drop_succ_cons,List.drop_zero,dJ] at hp
 obtain ⟨hm,hf,hk⟩ : aZ m∧bV m f∧f.c.kind=1:=hp
 have hb:=aQ hm hf.call (by omega)
 have gs:=hm.ns
 have g4:=hm.nh4
 have eH : ((af m.heads).rows.getD (aa m f.c).toNat []).getD 0 .u=.i (aO m (aa m f.c)):=iK (by omega)
 obtain ⟨f1,f2,f3,f4,f5,f6,f7,f8,f9,f10,f11,f12,f13⟩:=id hf
 have eN : 0 < f.cur→((au m.slots).rows.getD (f.cur - 1).toNat []).getD 5 .u=.i (at1 m f).next:=fun _=>qa (by omega)
 have eK1 : 0 < f.cur→((au m.slots).rows.getD (f.cur - 1).toNat []).getD 1 .u=.i (at1 m f).k.a:=fun _=>qc (by omega)
 have eK2 : 0 < f.cur→((au m.slots).rows.getD (f.cur - 1).toNat []).getD 2 .u=.i (at1 m f).k.b:=fun _=>qb (by omega)
 have a1 : m.slots.getD (f.cur - 1).toNat default=at1 m f:=rfl
 have a2 : m.slots.getD f.slot.toNat default=at2 m f:=rfl
 unfold t101
 repeat'
  show Tree.den _ _ _ _ _
  first
   | (with_reducible refine G0 (b:=.var _) (fun hx=>?_) (fun hx=>?_)) <;> simp only [nrm,xdn,reduceIte,Nat.reduceLT,Nat.reduceSub,Nat.reduceAdd,cG,cF,cy,cx,cE,aG,a1,a2,bX,Mem.cds,lca,Bool.not_eq_true',Bool.not_eq_false'] at hx
   | (with_reducible refine G0 (b:=.not (.cell _ _ _)) (fun hc=>?_) (fun hc=>?_)) <;> simp only [nrm,xdn,reduceIte,Nat.reduceLT,Nat.reduceSub,Nat.reduceAdd,cG,cF,cy,cx,cE,aG,a1,a2,bX,Mem.cds,lca,Bool.not_eq_true',Bool.not_eq_false'] at hc
   | (with_reducible refine G0 (fun h=>?_) (fun h=>?_)) <;> simp only [nrm,xdn,reduceIte,Nat.reduceLT,Nat.reduceSub,Nat.reduceAdd,cG,cF,cy,cx,cE,aG,a1,a2,bX,Mem.cds,lca,Bool.not_eq_true',Bool.not_eq_false'] at h <;> try first | replace h:=AW h | replace h:=AY h
   | (with_reducible refine G1 ?_ ?_;· simp only [nrm,xdn,reduceIte,Nat.reduceLT,Nat.reduceSub,Nat.reduceAdd,aN,aw,bX,cG,cF,cy,cx,cE,aG,a1,a2];omega)
   | (with_reducible refine eh ?_ ?_;· simp only [nrm,xdn,reduceIte,Nat.reduceLT,Nat.reduceSub,Nat.reduceAdd,aN,aw,bX,cG,cF,cy,cx,cE,aG,a1,a2];omega)
   | (with_reducible refine lv ?_ ?_;· simp only [nrm,xdn,reduceIte,Nat.reduceLT,Nat.reduceSub,Nat.reduceAdd,aN,aw,bX,cG,cF,cy,cx,cE,aG,a1,a2];omega)
   | with_reducible refine aj ?_
   | refine ai d48 [.i (aa m f.c)] rfl trivial (by simp only [nrm,xdn,reduceIte,Nat.reduceLT,Nat.reduceSub,Nat.reduceAdd,Fa]) ?_
   | refine ai d166 ((hold m (f.cur - 1)).1.cds ++ [.b (hold m (f.cur - 1)).2]) rfl (by simp only [nrm,xdn,reduceIte,Nat.reduceLT,Nat.reduceSub,Nat.reduceAdd];exact pi166 hm (by omega) (by omega)) (by simp only [nrm,xdn,reduceIte,Nat.reduceLT,Nat.reduceSub,Nat.reduceAdd,fs166]) ?_
   | refine ai d44 (ay f 0).cds rfl trivial (by simp only [nrm,xdn,reduceIte,Nat.reduceLT,Nat.reduceSub,Nat.reduceAdd,Frm.cds,lca];exact xR f 0) ?_
   | refine ai d167 (put m f.slot).cds rfl (by simp only [nrm,xdn,reduceIte,Nat.reduceLT,Nat.reduceSub,Nat.reduceAdd];exact pi167 hm (by omega) (by omega)) (by simp only [nrm,xdn,reduceIte,Nat.reduceLT,Nat.reduceSub,Nat.reduceAdd,A6]) ?_
   | refine ai d44 (ay { f with slot:=(-1)} 5).cds rfl trivial (by simp only [nrm,xdn,reduceIte,Nat.reduceLT,Nat.reduceSub,Nat.reduceAdd,Frm.cds,lca];exact xR { f with slot:=(-1)} 5) ?_
   | refine ai d44 (ay f 5).cds rfl trivial (by simp only [nrm,xdn,reduceIte,Nat.reduceLT,Nat.reduceSub,Nat.reduceAdd,Frm.cds,lca];exact xR f 5) ?_
 all_goals first | (exfalso;omega) | skip
 all_goals unfold ar
 all_goals repeat (first | rw [if_neg (by omega)] | rw [if_pos (by omega)] | rw [if_pos (by assumption)] | rw [if_neg (by assumption)] | rw [if_neg (ne_true_of_eq_false (by assumption))] | rw [if_pos (Or.inl (by assumption))] | rw [if_pos (Or.inr (by assumption))] | rw [if_neg (fun y=>Or.elim y (fun z=>z (by assumption)) (fun z=>Bool.false_ne_true (z.symm.trans (by assumption))))])
 all_goals try rw [sb hx]
 all_goals try rw [rX hx]
 all_goals try simp only [nrm,xdn,reduceIte,Nat.reduceLT,Nat.reduceSub,Nat.reduceAdd,Mem.cds,Frm.cds,ay,lca,CD.row,List.headD_cons,eH,cR,Bool.false_eq_true,Bool.true_eq_false]
 all_goals try simp only [nrm,xdn,reduceIte,Nat.reduceLT,Nat.reduceSub,Nat.reduceAdd,Mem.cds,Frm.cds,ay,lca,CD.row,List.headD_cons,eH,cR,Bool.false_eq_true,Bool.true_eq_false,hx]
 all_goals try simp only [nrm,xdn,reduceIte,Nat.reduceLT,Nat.reduceSub,Nat.reduceAdd,Mem.cds,Frm.cds,ay,lca,CD.row,List.headD_cons,eH,cR,Bool.false_eq_true,Bool.true_eq_false,hc]
 all_goals try simp only [nrm,xdn,reduceIte,Nat.reduceLT,Nat.reduceSub,Nat.reduceAdd,Mem.cds,Frm.cds,ay,lca,CD.row,List.headD_cons,eH,cR,Bool.false_eq_true,Bool.true_eq_false,ht]
 all_goals try simp only [nrm,xdn,reduceIte,Nat.reduceLT,Nat.reduceSub,Nat.reduceAdd,Mem.cds,Frm.cds,ay,lca,CD.row,List.headD_cons,eH,cR,Bool.false_eq_true,Bool.true_eq_false,eN (by omega),eK1 (by omega),eK2 (by omega)]
 all_goals first | (have e14 : f.slot=-1:=(by omega);simp only [e14];done) | (have e15 : f.n=1000000:=(by omega);simp only [e15];done)
end Go.Proofs.Ytpmamacjepcdmaa

namespace Go.Proofs.Ytpmamacjepcdmaa
open Go Go.Sy Go.RowKit
set_option linter.unusedSimpArgs false
set_option linter.unusedVariables false
def s186 : Sig:=⟨[.ptr [.own 52 kS,.own 3 kI,.own 3 kI,.own 3 kI,.int .i64],.one (.int .i64),.one (.int .i64)],[.one (.bool)]⟩
def d186 : DC:=⟨s186,fun l=>0≤(l.getD 5 .u).int∧(l.getD 5 .u).int < (Mem.of l).ae.length,fun l=>(lock (Mem.of l) (l.getD 5 .u).int (l.getD 6 .u).int).1.cds ++ [.b (lock (Mem.of l) (l.getD 5 .u).int (l.getD 6 .u).int).2]⟩
theorem fn186 (m : Mem) (b t : Int) : d186.fn [au m.slots,af m.heads,af m.free,af m.ae,.i m.now,.i b,.i t]=(lock m b t).1.cds ++ [.b (lock m b t).2]:=by simp only [d186,mem_of,aA,List.getD_cons_zero,List.getD_cons_succ,CD.aR]
theorem pi186 {m : Mem} {b t : Int} (hm : aZ m) (h0 : 0≤b) (h1 : b < m.heads.length) : d186.pre [au m.slots,af m.heads,af m.free,af m.ae,.i m.now,.i b,.i t]:=by
 simp only [d186,mem_of,aA,List.getD_cons_zero,List.getD_cons_succ,CD.aR]
 exact ⟨h0,by rw [hm.nl];exact h1⟩
def l186 : List (Nat × Ct):=[]
def z186 : Cx:={ T:=ttA,C:=sigs l186,F:=[],hints:=[],sig:=s186}
def t186 : Tree :=
 (.need (.le (.int 0) (.var 5))
 (.need (.lt (.var 5) (.len (.var 3)))
 (.ite (.not (.eq (.cell (.var 3) (.var 5) 0) (.int (-1))))
 (.ret [.var 0,.var 1,.var 2,.var 3,.var 4,.bool false])
 (.ret [.var 0,.var 1,.var 2,.set (.var 3) (.var 5) 0 (.var 6),.var 4,.bool true]))))
theorem run186 : run z186 6000 [.code (Try.f186.body.getD .skip),.fin (bt z186 Try.f186.results.toList 50)] { fn:=186,tmps:=z186.sig.aM ++ List.replicate (Try.f186.ntmps - z186.sig.aM.length) (.v (.one .undef)),stk:=[],h:=z186.sig.h0,nx:=z186.sig.ins.length,known:=[]}=t186:=by kernel_rfl
theorem ok186 : cB Try.prog 186 d186.ct:=by
 refine aD (d:=d186) (Z:=z186) (Γ:=gam l186) (fn:=Try.f186) (c:=Try.f186.body.getD .skip) (bg tok mixed all_nil bh) Try.func186 (by kernel_rfl) (by kernel_rfl) rfl run186 fun E hk hp=>?_
 obtain ⟨hk0,hk1,hk2,hk3,hk4,hk5,hk6,_⟩:=hk
 obtain ⟨m,e0,e1,e2,e3,e4,b0,b1,b2,b3⟩:=cv (d0:=E 0) (d1:=E 1) (d2:=E 2) (d3:=E 3) (d4:=E 4) hk0 hk1 hk2 hk3 hk4
 obtain ⟨x,e5⟩:=ok_int (d:=E 5) hk5
 obtain ⟨x2,e6⟩:=ok_int (d:=E 6) hk6
 have el : aH E d186.sig.ins.length=[au m.slots,af m.heads,af m.free,af m.ae,.i m.now,.i x,.i x2]:=by
  show [E 0,E 1,E 2,E 3,E 4,E 5,E 6]=_
  rw [e0,e1,e2,e3,e4,e5,e6]
 rw [el] at hp
 rw [el]
 rw [Env.bJ el]
 clear el e0 e1 e2 e3 e4 e5 e6
 rw [fn186]
 simp only [d186,mem_of,aA,List.getD_cons_zero,List.getD_cons_succ,CD.aR] at hp
 unfold lock
 unfold t186
 refine eh (by simp only [nrm,xdn,reduceIte,Nat.reduceLT,Nat.reduceSub,Nat.reduceAdd];omega) (lv (by simp only [nrm,xdn,reduceIte,Nat.reduceLT,Nat.reduceSub,Nat.reduceAdd,aw];omega) (G0 (fun h=>aj ?_) (fun h=>aj ?_)))
 ·simp only [nrm,xdn,reduceIte,Nat.reduceLT,Nat.reduceSub,Nat.reduceAdd,aG,Bool.not_eq_true'] at h ⊢
  first | rw [if_neg h] | rw [if_pos h]
  simp only [Mem.cds,lca,iG,nrm,xdn,reduceIte,Nat.reduceLT,Nat.reduceSub,Nat.reduceAdd] <;> first | rw [beq_iff_eq.2 h] | rw [beq_eq_false_iff_ne.2 h]
 ·simp only [nrm,xdn,reduceIte,Nat.reduceLT,Nat.reduceSub,Nat.reduceAdd,aG,Bool.not_eq_false'] at h ⊢
  first | rw [if_pos h] | rw [if_neg h]
  simp only [Mem.cds,lca,iG,nrm,xdn,reduceIte,Nat.reduceLT,Nat.reduceSub,Nat.reduceAdd] <;> first | rw [beq_iff_eq.2 h] | rw [beq_eq_false_iff_ne.2 h]
def s187 : Sig:=⟨[.ptr [.own 52 kS,.own 3 kI,.own 3 kI,.own 3 kI,.int .i64],.one (.int .i64),.one (.int .i64)],[]⟩
def d187 : DC:=⟨s187,fun l=>0≤(l.getD 5 .u).int∧(l.getD 5 .u).int < (Mem.of l).ae.length,fun l=>(unlock (Mem.of l) (l.getD 5 .u).int (l.getD 6 .u).int).cds⟩
theorem fn187 (m : Mem) (b t : Int) : d187.fn [au m.slots,af m.heads,af m.free,af m.ae,.i m.now,.i b,.i t]=(unlock m b t).cds:=by simp only [d187,mem_of,aA,List.getD_cons_zero,List.getD_cons_succ,CD.aR]
theorem pi187 {m : Mem} {b t : Int} (hm : aZ m) (h0 : 0≤b) (h1 : b < m.heads.length) : d187.pre [au m.slots,af m.heads,af m.free,af m.ae,.i m.now,.i b,.i t]:=by
 simp only [d187,mem_of,aA,List.getD_cons_zero,List.getD_cons_succ,CD.aR]
 exact ⟨h0,by rw [hm.nl];exact h1⟩
def l187 : List (Nat × Ct):=[]
def z187 : Cx:={ T:=ttA,C:=sigs l187,F:=[],hints:=[],sig:=s187}
def t187 : Tree :=
 (.need (.le (.int 0) (.var 5))
 (.need (.lt (.var 5) (.len (.var 3)))
 (.ite (.eq (.cell (.var 3) (.var 5) 0) (.var 6))
 (.ret [.var 0,.var 1,.var 2,.set (.var 3) (.var 5) 0 (.int (-1)),.var 4])
 (.ret [.var 0,.var 1,.var 2,.var 3,.var 4]))))
theorem run187 : run z187 6000 [.code (Try.f187.body.getD .skip),.fin (bt z187 Try.f187.results.toList 50)] { fn:=187,tmps:=z187.sig.aM ++ List.replicate (Try.f187.ntmps - z187.sig.aM.length) (.v (.one .undef)),stk:=[],h:=z187.sig.h0,nx:=z187.sig.ins.length,known:=[]}=t187:=by kernel_rfl
theorem ok187 : cB Try.prog 187 d187.ct:=by
 refine aD (d:=d187) (Z:=z187) (Γ:=gam l187) (fn:=Try.f187) (c:=Try.f187.body.getD .skip) (bg tok mixed all_nil bh) Try.func187 (by kernel_rfl) (by kernel_rfl) rfl run187 fun E hk hp=>?_
 obtain ⟨hk0,hk1,hk2,hk3,hk4,hk5,hk6,_⟩:=hk
 obtain ⟨m,e0,e1,e2,e3,e4,b0,b1,b2,b3⟩:=cv (d0:=E 0) (d1:=E 1) (d2:=E 2) (d3:=E 3) (d4:=E 4) hk0 hk1 hk2 hk3 hk4
 obtain ⟨x,e5⟩:=ok_int (d:=E 5) hk5
 obtain ⟨x2,e6⟩:=ok_int (d:=E 6) hk6
 have el : aH E d187.sig.ins.length=[au m.slots,af m.heads,af m.free,af m.ae,.i m.now,.i x,.i x2]:=by
  show [E 0,E 1,E 2,E 3,E 4,E 5,E 6]=_
  rw [e0,e1,e2,e3,e4,e5,e6]
 rw [el] at hp
 rw [el]
 rw [Env.bJ el]
 clear el e0 e1 e2 e3 e4 e5 e6
 rw [fn187]
 simp only [d187,mem_of,aA,List.getD_cons_zero,List.getD_cons_succ,CD.aR] at hp
 unfold unlock
 unfold t187
 refine eh (by simp only [nrm,xdn,reduceIte,Nat.reduceLT,Nat.reduceSub,Nat.reduceAdd];omega) (lv (by simp only [nrm,xdn,reduceIte,Nat.reduceLT,Nat.reduceSub,Nat.reduceAdd,aw];omega) (G0 (fun h=>aj ?_) (fun h=>aj ?_)))
 ·simp only [nrm,xdn,reduceIte,Nat.reduceLT,Nat.reduceSub,Nat.reduceAdd,aG] at h ⊢
  rw [if_pos h]
  simp only [Mem.cds,iG]
 ·simp only [nrm,xdn,reduceIte,Nat.reduceLT,Nat.reduceSub,Nat.reduceAdd,aG] at h ⊢
  rw [if_neg h]
  simp only [Mem.cds]
end Go.Proofs.Ytpmamacjepcdmaa
