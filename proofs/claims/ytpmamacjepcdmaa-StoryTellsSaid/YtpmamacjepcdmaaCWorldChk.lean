import Derived.Test.YtpmamacjepcdmaaCFrame
import Derived.Test.YtpmamacjepcdmaaCWorld
import Derived.Test.YtpmamacjepcdmaaCRef2
import Derived.Test.YtpmamacjepcdmaaCChain2
namespace Go.Proofs.Ytpmamacjepcdmaa
open Go Go.Sy Go.RowKit
set_option linter.unusedSimpArgs false
set_option linter.unusedVariables false
theorem x8 {α : Type} {r : List α} {i j : Nat} (hij : i≤j) (hj : j≤r.length) (z : List α) :
  (((r.take i ++ ((r.drop j).take (r.length - j) ++ r.drop (i + (r.length - j)))).take (i + (r.length - j)) ++ z).take (i + (r.length - j)))=r.take i ++ r.drop j:=by
 have e1 : (r.drop j).take (r.length - j)=r.drop j:=List.take_of_length_le (by simp)
 have e2 : (r.take i ++ r.drop j).length=i + (r.length - j):=by simp;omega
 rw [e1,← List.append_assoc,List.take_left' e2,List.take_left' e2]
end Go.Proofs.Ytpmamacjepcdmaa

namespace Go.Proofs.Ytpmamacjepcdmaa
open Go Go.Sy Go.RowKit
set_option linter.unusedSimpArgs false
set_option linter.unusedVariables false
def s215 : Sig:=⟨[.one (.own 3 kI),.one (.int .i64),.one (.int .i64)],[.one (.own 3 kI)]⟩
def d215 : DC:=⟨s215,fun l=>0≤(l.getD 1 .u).int∧(l.getD 1 .u).int≤(l.getD 2 .u).int∧(l.getD 2 .u).int≤(l.getD 0 .u).ints.length,fun l=>[af ((l.getD 0 .u).ints.take (l.getD 1 .u).int.toNat ++ (l.getD 0 .u).ints.drop (l.getD 2 .u).int.toNat)]⟩
def l215 : List (Nat × Ct):=[]
def z215 : Cx:={ T:=ttA,C:=sigs l215,F:=[],hints:=[],sig:=s215}
def t215 : Tree :=
 (.need (.le (.int 0) (.var 1))
 (.need (.le (.var 1) (.var 2))
 (.need (.le (.var 2) (.len (.var 0)))
 (.ite (.eq (.var 1) (.var 2))
 (.ret [.var 0])
 (.need (.le (.var 1) (.len (.var 0)))
 (.need (.le (.int 0) (.var 2))
 (.need (.le (.add (.var 1) (.sub (.len (.var 0)) (.var 2))) (.len (.var 0)))
 (.need (.le (.add (.var 2) (.sub (.len (.var 0)) (.var 2))) (.len (.var 0)))
 (.need (.le (.int 0) (.add (.var 1) (.sub (.len (.var 0)) (.var 2))))
 (.need (.le (.len (.var 0)) (.add (.len (.take (.var 1) (.var 0))) (.add (.len (.take (.sub (.len (.var 0)) (.var 2)) (.drop (.var 2) (.var 0)))) (.len (.drop (.add (.var 1) (.sub (.len (.var 0)) (.var 2))) (.var 0))))))
 (.need (.le (.add (.add (.var 1) (.sub (.len (.var 0)) (.var 2))) (.sub (.len (.var 0)) (.add (.var 1) (.sub (.len (.var 0)) (.var 2))))) (.add (.len (.take (.var 1) (.var 0))) (.add (.len (.take (.sub (.len (.var 0)) (.var 2)) (.drop (.var 2) (.var 0)))) (.len (.drop (.add (.var 1) (.sub (.len (.var 0)) (.var 2))) (.var 0))))))
 (.need (.le (.add (.var 1) (.sub (.len (.var 0)) (.var 2))) (.add (.len (.take (.add (.var 1) (.sub (.len (.var 0)) (.var 2))) (.app (.take (.var 1) (.var 0)) (.app (.take (.sub (.len (.var 0)) (.var 2)) (.drop (.var 2) (.var 0))) (.drop (.add (.var 1) (.sub (.len (.var 0)) (.var 2))) (.var 0)))))) (.add (.len (.rep (.sub (.len (.var 0)) (.add (.var 1) (.sub (.len (.var 0)) (.var 2)))) (.cons (.int 0) .row0))) (.len (.drop (.add (.add (.var 1) (.sub (.len (.var 0)) (.var 2))) (.sub (.len (.var 0)) (.add (.var 1) (.sub (.len (.var 0)) (.var 2))))) (.app (.take (.var 1) (.var 0)) (.app (.take (.sub (.len (.var 0)) (.var 2)) (.drop (.var 2) (.var 0))) (.drop (.add (.var 1) (.sub (.len (.var 0)) (.var 2))) (.var 0)))))))))
 (.ret [.take (.add (.var 1) (.sub (.len (.var 0)) (.var 2))) (.app (.take (.add (.var 1) (.sub (.len (.var 0)) (.var 2))) (.app (.take (.var 1) (.var 0)) (.app (.take (.sub (.len (.var 0)) (.var 2)) (.drop (.var 2) (.var 0))) (.drop (.add (.var 1) (.sub (.len (.var 0)) (.var 2))) (.var 0))))) (.app (.rep (.sub (.len (.var 0)) (.add (.var 1) (.sub (.len (.var 0)) (.var 2)))) (.cons (.int 0) .row0)) (.drop (.add (.add (.var 1) (.sub (.len (.var 0)) (.var 2))) (.sub (.len (.var 0)) (.add (.var 1) (.sub (.len (.var 0)) (.var 2))))) (.app (.take (.var 1) (.var 0)) (.app (.take (.sub (.len (.var 0)) (.var 2)) (.drop (.var 2) (.var 0))) (.drop (.add (.var 1) (.sub (.len (.var 0)) (.var 2))) (.var 0)))))))])))))))))))))
theorem run215 : run z215 6000 [.code (Try.f215.body.getD .skip),.fin (bt z215 Try.f215.results.toList 50)] { fn:=215,tmps:=z215.sig.aM ++ List.replicate (Try.f215.ntmps - z215.sig.aM.length) (.v (.one .undef)),stk:=[],h:=z215.sig.h0,nx:=z215.sig.ins.length,known:=[]}=t215:=by kernel_rfl
theorem ok215 : cB Try.prog 215 d215.ct:=by
 refine aD (d:=d215) (Z:=z215) (Γ:=gam l215) (fn:=Try.f215) (c:=Try.f215.body.getD .skip) (bg tok mixed all_nil bh) Try.func215 (by kernel_rfl) (by kernel_rfl) rfl run215 fun E hk hp=>?_
 obtain ⟨hk0,hk1,hk2,_⟩:=hk
 obtain ⟨l,e0,b0⟩:=iL (d:=E 0) hk0
 have b0 : l.length * 8≤140737488355328:=b0
 obtain ⟨x,e1⟩:=ok_int (d:=E 1) hk1
 obtain ⟨x2,e2⟩:=ok_int (d:=E 2) hk2
 have el : aH E d215.sig.ins.length=[af l,.i x,.i x2]:=by
  show [E 0,E 1,E 2]=_
  rw [e0,e1,e2]
 rw [el] at hp
 rw [el]
 rw [Env.bJ el]
 clear el e0 e1 e2
 simp only [d215,List.getD_cons_zero,List.getD_cons_succ,CD.aR,bY] at hp ⊢
 obtain ⟨p0,p1,p2⟩:=hp
 obtain ⟨i,rfl⟩ : ∃ i : Nat,x=i:=⟨x.toNat,by omega⟩
 obtain ⟨j,rfl⟩ : ∃ j : Nat,x2=j:=⟨x2.toNat,by omega⟩
 simp only [Int.toNat_natCast]
 unfold t215
 have hf : ∀ l : List Int,(af l).rows=l.map fun n=>[CD.i n]:=fun _=>rfl
 refine ag (by simp only [nrm,xdn,reduceIte,Nat.reduceLT,Nat.reduceSub,Nat.reduceAdd];omega) (ag (by simp only [nrm,xdn,reduceIte,Nat.reduceLT,Nat.reduceSub,Nat.reduceAdd];omega) (ag (by simp only [nrm,xdn,reduceIte,Nat.reduceLT,Nat.reduceSub,Nat.reduceAdd,aw];omega) (G0 (fun h=>aj ?_) (fun h=>?_))))
 ·simp only [nrm,xdn,reduceIte,Nat.reduceLT,Nat.reduceSub,Nat.reduceAdd] at h ⊢
  have : i=j:=by omega
  subst this
  rw [List.take_append_drop]
 simp only [nrm,xdn,reduceIte,Nat.reduceLT,Nat.reduceSub,Nat.reduceAdd] at h
 have hij : ¬ (i : Int)=j:=by simpa using h
 repeat refine ag (by simp only [nrm,xdn,reduceIte,Nat.reduceLT,Nat.reduceSub,Nat.reduceAdd,hf,List.length_take,List.length_drop,List.length_append,List.length_replicate,List.length_map];omega) ?_
 refine aj ?_
 simp only [nrm,xdn,reduceIte,Nat.reduceLT,Nat.reduceSub,Nat.reduceAdd,hf,List.length_map,Int.toNat_natCast]
 have en : ((i : Int) + ((l.length : Int) - (j : Int))).toNat=i + ((l.map fun n=>[CD.i n]).length - j):=by rw [List.length_map];omega
 have em : ((l.length : Int) - (j : Int)).toNat=(l.map fun n=>[CD.i n]).length - j:=by rw [List.length_map];omega
 rw [en,em,x8 (by omega) (by rw [List.length_map];omega)]
 simp only [af,List.map_append,List.map_take,List.map_drop]
def tsk (w : Wrd) (x : Int) : Tsk:=w.ts.getD x.toNat default
def Wrd.at (w : Wrd) (x : Int) (h : Tsk→Tsk) : Wrd:=⟨w.m,w.ts.modify x.toNat h⟩
def eR (w : Wrd) (x : Int) (c : Cal) : Wrd × Int :=
 if (tsk w x).busy=true then (w,8)
 else if bf w.m c≠0 then (w,bf w.m c)
 else if (tsk w x).held.length=100∧c.kind=1 then (w,7)
 else if c.kind=6∧c.slot ∉ (tsk w x).held then (w,6)
 else (w.at x fun t=>{ t with busy:=true,f:=aX c},0)
theorem hd_own {t : Tsk} (h : t.own=true) : t.hd=o8 t.held:=by unfold Tsk.hd;rw [h];rfl
theorem gZ {t : Tsk} (h : t.own=true) : t.iv=t.rw (o8 t.held):=by unfold Tsk.iv;rw [hd_own h]
theorem sX {α : Type} : ∀ (l : List α) (i : Nat),l.modify i (fun x=>x)=l
 | [],i=>by simp
 | _ :: _,0=>by simp
 | _ :: l,i + 1=>by simp [sX l i]
theorem cls {l : List Tsk} {r : List (List CD)} (h : CD.l r=az l) : (r.all fun r=>!(r.getD 15 .u).isH)=true:=by
 rw [show r=(az l).rows from congrArg CD.rows h];exact aI l
theorem put_A {ts : List Tsk} {k : Nat} {t : Tsk} (ht : ts.getD k default=t) (hto : t.own=true) (b : Bool) (f : Frm) : CD.l ((az ts).rows.modify k fun r=>((((((((((((((((r.set 15 (.o (af t.held).rows)).set 0 (.b b)).set 1 (.i f.c.kind)).set 2 (.i f.c.k.a)).set 3 (.i f.c.k.b)).set 4 (.i f.c.time)).set 5 (.i f.c.bucket)).set 6 (.i f.c.slot)).set 7 (.i f.pc)).set 8 (.i f.cur)).set 9 (.i f.prev)).set 10 (.i f.slot)).set 11 (.i f.n)).set 12 (bS f.keys)).set 13 (.b f.done)).set 14 (.i f.e)))=az (ts.modify k fun t=>{ t with busy:=b,f:=f}) :=
 gH (by rw [ht,gZ hto];simp only [Tsk.iv,Tsk.hd,hto,if_true];rfl)
theorem Jo {ts : List Tsk} {k : Nat} {t : Tsk} (ht : ts.getD k default=t) (hto : t.own=true) (b : Bool) (f : Frm) : CD.l ((az ts).rows.modify k fun r=>(((((((((((((((r.set 1 (.i f.c.kind)).set 2 (.i f.c.k.a)).set 3 (.i f.c.k.b)).set 4 (.i f.c.time)).set 5 (.i f.c.bucket)).set 6 (.i f.c.slot)).set 7 (.i f.pc)).set 8 (.i f.cur)).set 9 (.i f.prev)).set 10 (.i f.slot)).set 11 (.i f.n)).set 12 (bS f.keys)).set 13 (.b f.done)).set 14 (.i f.e)).set 0 (.b b)))=az (ts.modify k fun t=>{ t with busy:=b,f:=f}) :=
 gH (by rw [ht,gZ hto];simp only [Tsk.iv,Tsk.hd,hto,if_true];rfl)
theorem put_C {ts : List Tsk} {k : Nat} {t : Tsk} (ht : ts.getD k default=t) (hto : t.own=true) (b : Bool) (f : Frm) (l : List Int) : CD.l ((az ts).rows.modify k fun r=>((((((((((((((((r.set 1 (.i f.c.kind)).set 2 (.i f.c.k.a)).set 3 (.i f.c.k.b)).set 4 (.i f.c.time)).set 5 (.i f.c.bucket)).set 6 (.i f.c.slot)).set 7 (.i f.pc)).set 8 (.i f.cur)).set 9 (.i f.prev)).set 10 (.i f.slot)).set 11 (.i f.n)).set 12 (bS f.keys)).set 13 (.b f.done)).set 14 (.i f.e)).set 15 (.o (af l).rows)).set 0 (.b b)))=az (ts.modify k fun t=>{ t with busy:=b,f:=f,held:=l}) :=
 gH (by rw [ht,gZ hto];simp only [Tsk.iv,Tsk.hd,hto,if_true];rfl)
theorem put_D {ts : List Tsk} {k : Nat} {t : Tsk} (ht : ts.getD k default=t) (hto : t.own=true) (b : Bool) (f : Frm) (l : List Int) : CD.l ((az ts).rows.modify k fun r=>((((((((((((((((r.set 15 (.o (af l).rows)).set 1 (.i f.c.kind)).set 2 (.i f.c.k.a)).set 3 (.i f.c.k.b)).set 4 (.i f.c.time)).set 5 (.i f.c.bucket)).set 6 (.i f.c.slot)).set 7 (.i f.pc)).set 8 (.i f.cur)).set 9 (.i f.prev)).set 10 (.i f.slot)).set 11 (.i f.n)).set 12 (bS f.keys)).set 13 (.b f.done)).set 14 (.i f.e)).set 0 (.b b)))=az (ts.modify k fun t=>{ t with busy:=b,f:=f,held:=l}) :=
 gH (by rw [ht,gZ hto];simp only [Tsk.iv,Tsk.hd,hto,if_true];rfl)
def s209 : Sig:=⟨[.ptr [.own 52 kS,.own 3 kI,.own 3 kI,.own 3 kI,.int .i64,.own 129 kTo],.one (.int .i64),.agg [.int .i64,.int .i64,.int .i64,.int .i64,.int .i64,.int .i64]],[.one (.int .i64)]⟩
def d209 : DC:=⟨s209,fun l=>0≤(l.getD 6 .u).int∧(l.getD 6 .u).int < (Wrd.of l).ts.length∧∀ t∈(Wrd.of l).ts,t.own=true,fun l=>(eR (Wrd.of l) (l.getD 6 .u).int (Cal.of (l.drop 7))).1.cds ++ [.i (eR (Wrd.of l) (l.getD 6 .u).int (Cal.of (l.drop 7))).2]⟩
theorem fX (a : List bp) (b c d : List Int) (n : Int) (ts : List Tsk) (l : List CD) : Wrd.of (au a :: af b :: af c :: af d :: .i n :: az ts :: l)=⟨⟨a,b,c,d,n⟩,ts⟩:=by
 simp only [Wrd.of,mem_of,List.getD_cons_zero,List.getD_cons_succ,jH]
def l209 : List (Nat × Ct):=[(40,d40.ct),(98,d98.ct),(41,d41.ct)]
def z209 : Cx:={ T:=ttA,C:=sigs l209,F:=[],hints:=[],sig:=s209}
def t209 : Tree :=
 (.need (.le (.int 0) (.var 6))
 (.need (.lt (.var 6) (.len (.var 5)))
 (.ite (.cell (.var 5) (.var 6) 0)
 (.need (.clean (.var 5) 15)
 (.ret [.var 0,.var 1,.var 2,.var 3,.var 4,.var 5,.int 8]))
 (.call 40 [.var 0,.var 1,.var 2,.var 3,.var 4,.var 7,.var 8,.var 9,.var 10,.var 11,.var 12] 13
 (.ite (.not (.eq (.var 13) (.int 0)))
 (.need (.clean (.var 5) 15)
 (.ret [.var 0,.var 1,.var 2,.var 3,.var 4,.var 5,.var 13]))
 (.need (.isO (.cell (.var 5) (.var 6) 15))
 (.ite (.eq (.len (.shut (.cell (.var 5) (.var 6) 15))) (.int 100))
 (.ite (.eq (.var 7) (.int 1))
 (.need (.clean (.set (.var 5) (.var 6) 15 (.own (.shut (.cell (.var 5) (.var 6) 15)))) 15)
 (.ret [.var 0,.var 1,.var 2,.var 3,.var 4,.set (.var 5) (.var 6) 15 (.own (.shut (.cell (.var 5) (.var 6) 15))),.int 7]))
 (.ite (.eq (.var 7) (.int 6))
 (.call 98 [.shut (.cell (.var 5) (.var 6) 15),.var 12] 14
 (.ite (.not (.var 14))
 (.need (.clean (.set (.var 5) (.var 6) 15 (.own (.shut (.cell (.var 5) (.var 6) 15)))) 15)
 (.ret [.var 0,.var 1,.var 2,.var 3,.var 4,.set (.var 5) (.var 6) 15 (.own (.shut (.cell (.var 5) (.var 6) 15))),.int 6]))
 (.call 41 [.var 7,.var 8,.var 9,.var 10,.var 11,.var 12] 15
 (.need (.clean (.set (.set (.set (.set (.set (.set (.set (.set (.set (.set (.set (.set (.set (.set (.set (.set (.var 5) (.var 6) 15 (.own (.shut (.cell (.var 5) (.var 6) 15)))) (.var 6) 0 (.bool true)) (.var 6) 1 (.var 15)) (.var 6) 2 (.var 16)) (.var 6) 3 (.var 17)) (.var 6) 4 (.var 18)) (.var 6) 5 (.var 19)) (.var 6) 6 (.var 20)) (.var 6) 7 (.var 21)) (.var 6) 8 (.var 22)) (.var 6) 9 (.var 23)) (.var 6) 10 (.var 24)) (.var 6) 11 (.var 25)) (.var 6) 12 (.var 26)) (.var 6) 13 (.var 27)) (.var 6) 14 (.var 28)) 15)
 (.ret [.var 0,.var 1,.var 2,.var 3,.var 4,.set (.set (.set (.set (.set (.set (.set (.set (.set (.set (.set (.set (.set (.set (.set (.set (.var 5) (.var 6) 15 (.own (.shut (.cell (.var 5) (.var 6) 15)))) (.var 6) 0 (.bool true)) (.var 6) 1 (.var 15)) (.var 6) 2 (.var 16)) (.var 6) 3 (.var 17)) (.var 6) 4 (.var 18)) (.var 6) 5 (.var 19)) (.var 6) 6 (.var 20)) (.var 6) 7 (.var 21)) (.var 6) 8 (.var 22)) (.var 6) 9 (.var 23)) (.var 6) 10 (.var 24)) (.var 6) 11 (.var 25)) (.var 6) 12 (.var 26)) (.var 6) 13 (.var 27)) (.var 6) 14 (.var 28),.int 0])))))
 (.call 41 [.var 7,.var 8,.var 9,.var 10,.var 11,.var 12] 14
 (.need (.clean (.set (.set (.set (.set (.set (.set (.set (.set (.set (.set (.set (.set (.set (.set (.set (.set (.var 5) (.var 6) 15 (.own (.shut (.cell (.var 5) (.var 6) 15)))) (.var 6) 0 (.bool true)) (.var 6) 1 (.var 14)) (.var 6) 2 (.var 15)) (.var 6) 3 (.var 16)) (.var 6) 4 (.var 17)) (.var 6) 5 (.var 18)) (.var 6) 6 (.var 19)) (.var 6) 7 (.var 20)) (.var 6) 8 (.var 21)) (.var 6) 9 (.var 22)) (.var 6) 10 (.var 23)) (.var 6) 11 (.var 24)) (.var 6) 12 (.var 25)) (.var 6) 13 (.var 26)) (.var 6) 14 (.var 27)) 15)
 (.ret [.var 0,.var 1,.var 2,.var 3,.var 4,.set (.set (.set (.set (.set (.set (.set (.set (.set (.set (.set (.set (.set (.set (.set (.set (.var 5) (.var 6) 15 (.own (.shut (.cell (.var 5) (.var 6) 15)))) (.var 6) 0 (.bool true)) (.var 6) 1 (.var 14)) (.var 6) 2 (.var 15)) (.var 6) 3 (.var 16)) (.var 6) 4 (.var 17)) (.var 6) 5 (.var 18)) (.var 6) 6 (.var 19)) (.var 6) 7 (.var 20)) (.var 6) 8 (.var 21)) (.var 6) 9 (.var 22)) (.var 6) 10 (.var 23)) (.var 6) 11 (.var 24)) (.var 6) 12 (.var 25)) (.var 6) 13 (.var 26)) (.var 6) 14 (.var 27),.int 0])))))
 (.ite (.eq (.var 7) (.int 6))
 (.call 98 [.shut (.cell (.var 5) (.var 6) 15),.var 12] 14
 (.ite (.not (.var 14))
 (.need (.clean (.set (.var 5) (.var 6) 15 (.own (.shut (.cell (.var 5) (.var 6) 15)))) 15)
 (.ret [.var 0,.var 1,.var 2,.var 3,.var 4,.set (.var 5) (.var 6) 15 (.own (.shut (.cell (.var 5) (.var 6) 15))),.int 6]))
 (.call 41 [.var 7,.var 8,.var 9,.var 10,.var 11,.var 12] 15
 (.need (.clean (.set (.set (.set (.set (.set (.set (.set (.set (.set (.set (.set (.set (.set (.set (.set (.set (.var 5) (.var 6) 15 (.own (.shut (.cell (.var 5) (.var 6) 15)))) (.var 6) 0 (.bool true)) (.var 6) 1 (.var 15)) (.var 6) 2 (.var 16)) (.var 6) 3 (.var 17)) (.var 6) 4 (.var 18)) (.var 6) 5 (.var 19)) (.var 6) 6 (.var 20)) (.var 6) 7 (.var 21)) (.var 6) 8 (.var 22)) (.var 6) 9 (.var 23)) (.var 6) 10 (.var 24)) (.var 6) 11 (.var 25)) (.var 6) 12 (.var 26)) (.var 6) 13 (.var 27)) (.var 6) 14 (.var 28)) 15)
 (.ret [.var 0,.var 1,.var 2,.var 3,.var 4,.set (.set (.set (.set (.set (.set (.set (.set (.set (.set (.set (.set (.set (.set (.set (.set (.var 5) (.var 6) 15 (.own (.shut (.cell (.var 5) (.var 6) 15)))) (.var 6) 0 (.bool true)) (.var 6) 1 (.var 15)) (.var 6) 2 (.var 16)) (.var 6) 3 (.var 17)) (.var 6) 4 (.var 18)) (.var 6) 5 (.var 19)) (.var 6) 6 (.var 20)) (.var 6) 7 (.var 21)) (.var 6) 8 (.var 22)) (.var 6) 9 (.var 23)) (.var 6) 10 (.var 24)) (.var 6) 11 (.var 25)) (.var 6) 12 (.var 26)) (.var 6) 13 (.var 27)) (.var 6) 14 (.var 28),.int 0])))))
 (.call 41 [.var 7,.var 8,.var 9,.var 10,.var 11,.var 12] 14
 (.need (.clean (.set (.set (.set (.set (.set (.set (.set (.set (.set (.set (.set (.set (.set (.set (.set (.set (.var 5) (.var 6) 15 (.own (.shut (.cell (.var 5) (.var 6) 15)))) (.var 6) 0 (.bool true)) (.var 6) 1 (.var 14)) (.var 6) 2 (.var 15)) (.var 6) 3 (.var 16)) (.var 6) 4 (.var 17)) (.var 6) 5 (.var 18)) (.var 6) 6 (.var 19)) (.var 6) 7 (.var 20)) (.var 6) 8 (.var 21)) (.var 6) 9 (.var 22)) (.var 6) 10 (.var 23)) (.var 6) 11 (.var 24)) (.var 6) 12 (.var 25)) (.var 6) 13 (.var 26)) (.var 6) 14 (.var 27)) 15)
 (.ret [.var 0,.var 1,.var 2,.var 3,.var 4,.set (.set (.set (.set (.set (.set (.set (.set (.set (.set (.set (.set (.set (.set (.set (.set (.var 5) (.var 6) 15 (.own (.shut (.cell (.var 5) (.var 6) 15)))) (.var 6) 0 (.bool true)) (.var 6) 1 (.var 14)) (.var 6) 2 (.var 15)) (.var 6) 3 (.var 16)) (.var 6) 4 (.var 17)) (.var 6) 5 (.var 18)) (.var 6) 6 (.var 19)) (.var 6) 7 (.var 20)) (.var 6) 8 (.var 21)) (.var 6) 9 (.var 22)) (.var 6) 10 (.var 23)) (.var 6) 11 (.var 24)) (.var 6) 12 (.var 25)) (.var 6) 13 (.var 26)) (.var 6) 14 (.var 27),.int 0])))))))))))
theorem run209 : run z209 6000 [.code (Try.f209.body.getD .skip),.fin (bt z209 Try.f209.results.toList 50)] { fn:=209,tmps:=z209.sig.aM ++ List.replicate (Try.f209.ntmps - z209.sig.aM.length) (.v (.one .undef)),stk:=[],h:=z209.sig.h0,nx:=z209.sig.ins.length,known:=[]}=t209:=by kernel_rfl
theorem ok209 : cB Try.prog 209 d209.ct:=by
 refine aD (d:=d209) (Z:=z209) (Γ:=gam l209) (fn:=Try.f209) (c:=Try.f209.body.getD .skip) (bg tok mixed (all_cons ok40 (all_cons ok98 (all_cons ok41 all_nil))) bh) Try.func209 (by kernel_rfl) (by kernel_rfl) rfl run209 fun E hk hp=>?_
 obtain ⟨hk0,hk1,hk2,hk3,hk4,hk5,hk6,hk7,hk8,hk9,hk10,hk11,hk12,_⟩:=hk
 obtain ⟨m,e0,e1,e2,e3,e4,b0,b1,b2,b3⟩:=cv (d0:=E 0) (d1:=E 1) (d2:=E 2) (d3:=E 3) (d4:=E 4) hk0 hk1 hk2 hk3 hk4
 obtain ⟨ts,e5,hts,b5⟩:=qf (d:=E 5) hk5
 have b5 : ts.length * 160≤140737488355328:=b5
 obtain ⟨x,e6⟩:=ok_int (d:=E 6) hk6
 obtain ⟨c,e7,e8,e9,e10,e11,e12⟩:=kR (d0:=E 7) (d1:=E 8) (d2:=E 9) (d3:=E 10) (d4:=E 11) (d5:=E 12) hk7 hk8 hk9 hk10 hk11 hk12
 have el : aH E d209.sig.ins.length=[au m.slots,af m.heads,af m.free,af m.locks,.i m.now,az ts,.i x,.i c.kind,.i c.k.a,.i c.k.b,.i c.time,.i c.bucket,.i c.slot]:=by
  show [E 0,E 1,E 2,E 3,E 4,E 5,E 6,E 7,E 8,E 9,E 10,E 11,E 12]=_
  rw [e0,e1,e2,e3,e4,e5,e6,e7,e8,e9,e10,e11,e12]
 rw [el] at hp
 rw [el]
 rw [Env.bJ el]
 clear el e0 e1 e2 e3 e4 e5 e6 e7 e8 e9 e10 e11 e12
 simp only [d209,fX,List.getD_cons_zero,List.getD_cons_succ,CD.aR,aA,List.drop_succ_cons,List.drop_zero,fG,cz] at hp ⊢
 obtain ⟨p0,p1,p2⟩:=hp
 obtain ⟨k,rfl⟩ : ∃ k : Nat,x=k:=⟨x.toNat,by omega⟩
 have hk : k < ts.length:=by omega
 obtain ⟨t,ht⟩ : ∃ t,ts.getD k default=t:=⟨_,rfl⟩
 have hto : t.own=true:=p2 _ (ht ▸ fc hk)
 have htt : tsk ⟨m,ts⟩ k=t:=by unfold tsk;rw [Int.toNat_natCast];exact ht
 have e0 : ((az ts).rows.getD k []).getD 0 .u=.b t.busy:=by rw [cO 0 hk,ht];rfl
 have e15 : ((az ts).rows.getD k []).getD 15 .u=o8 t.held:=by rw [cO 15 hk,ht,gZ hto];rfl
 have eo : (o8 t.held).isO=true:=rfl
 have es : (o8 t.held).shut=af t.held:=rfl
 have h0 : CD.l ((az ts).rows.modify k fun r=>r.set 15 (.o (af t.held).rows))=az ts:=by
  have:=gH (l:=ts) (i:=k) (g:=fun r=>r.set 15 (.o (af t.held).rows)) (h:=fun t=>t) (by rw [ht,gZ hto];rfl)
  rw [this,sX]
 have hB:=put_A ht hto true (aX c)
 unfold eR
 rw [htt]
 unfold t209
 refine ag (by simp only [nrm,xdn,reduceIte,Nat.reduceLT,Nat.reduceSub,Nat.reduceAdd];omega) (ag (by simp only [nrm,xdn,reduceIte,Nat.reduceLT,Nat.reduceSub,Nat.reduceAdd,eK];omega) (G0 (fun h=>?_) (fun h=>?_)))
 ·simp only [nrm,xdn,reduceIte,Nat.reduceLT,Nat.reduceSub,Nat.reduceAdd,Int.toNat_natCast,e0] at h
  rw [if_pos h]
  refine ag (by simp only [nrm,xdn,reduceIte,Nat.reduceLT,Nat.reduceSub,Nat.reduceAdd];exact aI ts) (aj ?_)
  simp only [nrm,xdn,reduceIte,Nat.reduceLT,Nat.reduceSub,Nat.reduceAdd,Wrd.cds,Mem.cds,lca]
 simp only [nrm,xdn,reduceIte,Nat.reduceLT,Nat.reduceSub,Nat.reduceAdd,Int.toNat_natCast,e0] at h
 rw [if_neg (by rw [h];exact Bool.false_ne_true)]
 refine ai d40 [.i (bf m c)] rfl trivial (by simp only [nrm,xdn,reduceIte,Nat.reduceLT,Nat.reduceSub,Nat.reduceAdd,d40,mem_of,aA,fG,cz,List.drop_succ_cons,List.drop_zero]) (G0 (fun h1=>?_) (fun h1=>?_))
 ·simp only [nrm,xdn,reduceIte,Nat.reduceLT,Nat.reduceSub,Nat.reduceAdd] at h1
  rw [if_pos (by simpa using h1)]
  refine ag (by simp only [nrm,xdn,reduceIte,Nat.reduceLT,Nat.reduceSub,Nat.reduceAdd];exact aI ts) (aj ?_)
  simp only [nrm,xdn,reduceIte,Nat.reduceLT,Nat.reduceSub,Nat.reduceAdd,Wrd.cds,Mem.cds,lca]
 simp only [nrm,xdn,reduceIte,Nat.reduceLT,Nat.reduceSub,Nat.reduceAdd] at h1
 rw [if_neg (by simpa using h1)]
 refine ag (by simp only [nrm,xdn,reduceIte,Nat.reduceLT,Nat.reduceSub,Nat.reduceAdd,Int.toNat_natCast,e15,eo]) (G0 (fun h2=>?_) (fun h2=>?_))
 ·simp only [nrm,xdn,reduceIte,Nat.reduceLT,Nat.reduceSub,Nat.reduceAdd,Int.toNat_natCast,e15,es,aw] at h2
  refine G0 (fun h3=>?_) (fun h3=>?_)
  ·simp only [nrm,xdn,reduceIte,Nat.reduceLT,Nat.reduceSub,Nat.reduceAdd] at h3
   rw [if_pos ⟨by omega,h3⟩]
   refine ag (by simp only [nrm,xdn,reduceIte,Nat.reduceLT,Nat.reduceSub,Nat.reduceAdd,Int.toNat_natCast,e15,es,CD.ax];exact cls h0) (aj ?_)
   simp only [nrm,xdn,reduceIte,Nat.reduceLT,Nat.reduceSub,Nat.reduceAdd,Int.toNat_natCast,e15,es,CD.ax,h0,Wrd.cds,Mem.cds,lca]
  simp only [nrm,xdn,reduceIte,Nat.reduceLT,Nat.reduceSub,Nat.reduceAdd] at h3
  rw [if_neg (fun x=>h3 x.2)]
  refine G0 (fun h3=>?_) (fun h3=>?_)
  ·simp only [nrm,xdn,reduceIte,Nat.reduceLT,Nat.reduceSub,Nat.reduceAdd] at h3
   refine ai d98 [.b (decide (c.slot∈t.held))] rfl trivial (by simp only [nrm,xdn,reduceIte,Nat.reduceLT,Nat.reduceSub,Nat.reduceAdd,Int.toNat_natCast,e15,es,d98,bY]) (G0 (fun h4=>?_) (fun h4=>?_))
   ·simp only [nrm,xdn,reduceIte,Nat.reduceLT,Nat.reduceSub,Nat.reduceAdd] at h4
    have h4 : c.slot ∉ t.held:=by simpa using h4
    rw [if_pos ⟨h3,h4⟩]
    refine ag (by simp only [nrm,xdn,reduceIte,Nat.reduceLT,Nat.reduceSub,Nat.reduceAdd,Int.toNat_natCast,e15,es,CD.ax];exact cls h0) (aj ?_)
    simp only [nrm,xdn,reduceIte,Nat.reduceLT,Nat.reduceSub,Nat.reduceAdd,Int.toNat_natCast,e15,es,CD.ax,h0,Wrd.cds,Mem.cds,lca]
   simp only [nrm,xdn,reduceIte,Nat.reduceLT,Nat.reduceSub,Nat.reduceAdd] at h4
   have h4 : c.slot∈t.held:=by simpa using h4
   rw [if_neg (fun x=>x.2 h4)]
   refine ai d41 (aX c).cds rfl trivial (by simp only [nrm,xdn,reduceIte,Nat.reduceLT,Nat.reduceSub,Nat.reduceAdd,d41,fG,cz]) (ag ?_ (aj ?_))
   ·simp only [nrm,xdn,reduceIte,Nat.reduceLT,Nat.reduceSub,Nat.reduceAdd,Int.toNat_natCast,e15,es,CD.ax,aC,Frm.cds]
    exact cls hB
   ·simp only [nrm,xdn,reduceIte,Nat.reduceLT,Nat.reduceSub,Nat.reduceAdd,Int.toNat_natCast,e15,es,CD.ax,aC,Frm.cds,hB,Wrd.cds,Wrd.at,Mem.cds,lca]
  ·simp only [nrm,xdn,reduceIte,Nat.reduceLT,Nat.reduceSub,Nat.reduceAdd] at h3
   rw [if_neg (fun x=>h3 x.1)]
   refine ai d41 (aX c).cds rfl trivial (by simp only [nrm,xdn,reduceIte,Nat.reduceLT,Nat.reduceSub,Nat.reduceAdd,d41,fG,cz]) (ag ?_ (aj ?_))
   ·simp only [nrm,xdn,reduceIte,Nat.reduceLT,Nat.reduceSub,Nat.reduceAdd,Int.toNat_natCast,e15,es,CD.ax,aC,Frm.cds]
    exact cls hB
   ·simp only [nrm,xdn,reduceIte,Nat.reduceLT,Nat.reduceSub,Nat.reduceAdd,Int.toNat_natCast,e15,es,CD.ax,aC,Frm.cds,hB,Wrd.cds,Wrd.at,Mem.cds,lca]
 ·simp only [nrm,xdn,reduceIte,Nat.reduceLT,Nat.reduceSub,Nat.reduceAdd,Int.toNat_natCast,e15,es,aw] at h2
  rw [if_neg (fun x=>h2 (by omega))]
  refine G0 (fun h3=>?_) (fun h3=>?_)
  ·simp only [nrm,xdn,reduceIte,Nat.reduceLT,Nat.reduceSub,Nat.reduceAdd] at h3
   refine ai d98 [.b (decide (c.slot∈t.held))] rfl trivial (by simp only [nrm,xdn,reduceIte,Nat.reduceLT,Nat.reduceSub,Nat.reduceAdd,Int.toNat_natCast,e15,es,d98,bY]) (G0 (fun h4=>?_) (fun h4=>?_))
   ·simp only [nrm,xdn,reduceIte,Nat.reduceLT,Nat.reduceSub,Nat.reduceAdd] at h4
    have h4 : c.slot ∉ t.held:=by simpa using h4
    rw [if_pos ⟨h3,h4⟩]
    refine ag (by simp only [nrm,xdn,reduceIte,Nat.reduceLT,Nat.reduceSub,Nat.reduceAdd,Int.toNat_natCast,e15,es,CD.ax];exact cls h0) (aj ?_)
    simp only [nrm,xdn,reduceIte,Nat.reduceLT,Nat.reduceSub,Nat.reduceAdd,Int.toNat_natCast,e15,es,CD.ax,h0,Wrd.cds,Mem.cds,lca]
   simp only [nrm,xdn,reduceIte,Nat.reduceLT,Nat.reduceSub,Nat.reduceAdd] at h4
   have h4 : c.slot∈t.held:=by simpa using h4
   rw [if_neg (fun x=>x.2 h4)]
   refine ai d41 (aX c).cds rfl trivial (by simp only [nrm,xdn,reduceIte,Nat.reduceLT,Nat.reduceSub,Nat.reduceAdd,d41,fG,cz]) (ag ?_ (aj ?_))
   ·simp only [nrm,xdn,reduceIte,Nat.reduceLT,Nat.reduceSub,Nat.reduceAdd,Int.toNat_natCast,e15,es,CD.ax,aC,Frm.cds]
    exact cls hB
   ·simp only [nrm,xdn,reduceIte,Nat.reduceLT,Nat.reduceSub,Nat.reduceAdd,Int.toNat_natCast,e15,es,CD.ax,aC,Frm.cds,hB,Wrd.cds,Wrd.at,Mem.cds,lca]
  ·simp only [nrm,xdn,reduceIte,Nat.reduceLT,Nat.reduceSub,Nat.reduceAdd] at h3
   rw [if_neg (fun x=>h3 x.1)]
   refine ai d41 (aX c).cds rfl trivial (by simp only [nrm,xdn,reduceIte,Nat.reduceLT,Nat.reduceSub,Nat.reduceAdd,d41,fG,cz]) (ag ?_ (aj ?_))
   ·simp only [nrm,xdn,reduceIte,Nat.reduceLT,Nat.reduceSub,Nat.reduceAdd,Int.toNat_natCast,e15,es,CD.ax,aC,Frm.cds]
    exact cls hB
   ·simp only [nrm,xdn,reduceIte,Nat.reduceLT,Nat.reduceSub,Nat.reduceAdd,Int.toNat_natCast,e15,es,CD.ax,aC,Frm.cds,hB,Wrd.cds,Wrd.at,Mem.cds,lca]
end Go.Proofs.Ytpmamacjepcdmaa

namespace Go.Proofs.Ytpmamacjepcdmaa
open Go Go.Sy Go.RowKit
set_option linter.unusedSimpArgs false
set_option linter.unusedVariables false
def fb (n : Nat) : List Int→Int
 | []=>0
 | a :: l=>if a < 0∨(n : Int)≤a then 5 else fb n l
def dO (m : Mem) (t : Tsk) : Int :=
 if 100 < t.held.length then 2
 else if fb m.slots.length t.held≠0 then fb m.slots.length t.held
 else if t.busy=true then eO m t.f else 0
def eC (m : Mem) : List Tsk→Int
 | []=>0
 | t :: l=>if dO m t≠0 then dO m t else eC m l
def bL (w : Wrd) : Int :=
 if cP w.m≠0 then cP w.m
 else if w.ts.length < 1∨5 < w.ts.length then 3
 else eC w.m w.ts
def s157 : Sig:=⟨[.agg [.fz kS,.fz kI,.fz kI,.fz kI,.int .i64,.fz kT]],[.one (.int .i64)]⟩
def d157 : DC:=⟨s157,fun _=>True,fun l=>[.i (bL (Wrd.of l))]⟩
def l157 : List (Nat × Ct):=[(51,d51.ct),(43,d43.ct)]
noncomputable def z157 : Cx:={ T:=ttA,C:=sigs l157,F:=[(116,Try.f116),(195,Try.f195),(202,Try.f202)],hints:=[⟨157,7,false,[(26,.lt)],[],[],[],0,0,false⟩,⟨195,2,false,[(8,.lt)],[],[],[],0,0,false⟩],sig:=s157}
def t157 : Tree :=
 (.call 51 [.var 0,.var 1,.var 2,.var 3,.var 4] 6
 (.ite (.not (.eq (.var 6) (.int 0)))
 (.ret [.var 6])
 (.ite (.lt (.len (.var 5)) (.int 1))
 (.ret [.int 3])
 (.ite (.lt (.int 5) (.len (.var 5)))
 (.ret [.int 3])
 (.loop 7 [.int .i64] [.int 0]
 (.ite (.lt (.var 8) (.len (.var 5)))
 (.need (.le (.int 0) (.var 8))
 (.ite (.lt (.int 100) (.len (.cell (.var 5) (.var 8) 15)))
 (.ret [.int 2])
 (.loop 9 [.int .i64] [.int 0]
 (.ite (.lt (.var 10) (.len (.cell (.var 5) (.var 8) 15)))
 (.need (.le (.int 0) (.var 10))
 (.ite (.lt (.cell (.cell (.var 5) (.var 8) 15) (.var 10) 0) (.int 0))
 (.ret [.int 5])
 (.ite (.le (.len (.var 0)) (.cell (.cell (.var 5) (.var 8) 15) (.var 10) 0))
 (.ret [.int 5])
 (.need (.fit (.add (.var 10) (.int 1)))
 (.back 9 [.add (.var 10) (.int 1)])))))
 (.ite (.cell (.var 5) (.var 8) 0)
 (.call 43 [.var 0,.var 1,.var 2,.var 3,.var 4,.cell (.var 5) (.var 8) 1,.cell (.var 5) (.var 8) 2,.cell (.var 5) (.var 8) 3,.cell (.var 5) (.var 8) 4,.cell (.var 5) (.var 8) 5,.cell (.var 5) (.var 8) 6,.cell (.var 5) (.var 8) 7,.cell (.var 5) (.var 8) 8,.cell (.var 5) (.var 8) 9,.cell (.var 5) (.var 8) 10,.cell (.var 5) (.var 8) 11,.cell (.var 5) (.var 8) 12,.cell (.var 5) (.var 8) 13,.cell (.var 5) (.var 8) 14] 11
 (.ite (.not (.eq (.var 11) (.int 0)))
 (.ret [.var 11])
 (.need (.fit (.add (.var 8) (.int 1)))
 (.back 7 [.add (.var 8) (.int 1)]))))
 (.need (.fit (.add (.var 8) (.int 1)))
 (.back 7 [.add (.var 8) (.int 1)])))))))
 (.ret [.int 0])))))))
theorem run157 : run z157 6000 [.code (Try.f157.body.getD .skip),.fin (bt z157 Try.f157.results.toList 50)] { fn:=157,tmps:=z157.sig.aM ++ List.replicate (Try.f157.ntmps - z157.sig.aM.length) (.v (.one .undef)),stk:=[],h:=z157.sig.h0,nx:=z157.sig.ins.length,known:=[]}=t157:=by kernel_rfl
theorem ok157 : cB Try.prog 157 d157.ct:=by
 refine aD (d:=d157) (Z:=z157) (Γ:=gam l157) (fn:=Try.f157) (c:=Try.f157.body.getD .skip) (bg tok mixed (all_cons ok51 (all_cons ok43 all_nil)) (dX (c:=Try.f116.body.getD .skip) Try.func116 (by kernel_rfl) (by kernel_rfl) (dX (c:=Try.f195.body.getD .skip) Try.func195 (by kernel_rfl) (by kernel_rfl) (dX (c:=Try.f202.body.getD .skip) Try.func202 (by kernel_rfl) (by kernel_rfl) bh)))) Try.func157 (by kernel_rfl) (by kernel_rfl) rfl run157 fun E hk hp=>?_
 obtain ⟨hk0,hk1,hk2,hk3,hk4,hk5,_⟩:=hk
 obtain ⟨m,e0,e1,e2,e3,e4,b0,b1,b2,b3⟩:=cv (d0:=E 0) (d1:=E 1) (d2:=E 2) (d3:=E 3) (d4:=E 4) hk0 hk1 hk2 hk3 hk4
 obtain ⟨ts,e5,hts,b5⟩:=hU (d:=E 5) hk5
 have b5 : ts.length * 160≤140737488355328:=b5
 have el : aH E d157.sig.ins.length=[au m.slots,af m.heads,af m.free,af m.locks,.i m.now,G2 ts]:=by
  show [E 0,E 1,E 2,E 3,E 4,E 5]=_
  rw [e0,e1,e2,e3,e4,e5]
 rw [el] at hp
 rw [el]
 rw [Env.bJ el]
 clear el e0 e1 e2 e3 e4 e5
 have hown : ∀ t∈ts,t.own=false:=fun t ht=>(hts t ht).1
 have hc : d157.fn [au m.slots,af m.heads,af m.free,af m.locks,.i m.now,G2 ts]=[.i (bL ⟨m,ts⟩)]:=by
  simp only [d157,Wrd.of,mem_of,aA,List.getD_cons_zero,List.getD_cons_succ,fZ hown]
 rw [hc]
 unfold bL
 unfold t157
 refine ai d51 [.i (cP m)] rfl trivial (by simp only [nrm,xdn,reduceIte,Nat.reduceLT,Nat.reduceSub,Nat.reduceAdd,d51,mem_of,aA]) (G0 (fun h=>aj ?_) (fun h=>?_))
 ·simp only [nrm,xdn,reduceIte,Nat.reduceLT,Nat.reduceSub,Nat.reduceAdd] at h ⊢
  rw [if_pos (by simpa using h)]
 simp only [nrm,xdn,reduceIte,Nat.reduceLT,Nat.reduceSub,Nat.reduceAdd] at h
 rw [if_neg (by simpa using h)]
 refine G0 (fun h1=>aj ?_) (fun h1=>G0 (fun h2=>aj ?_) (fun h2=>?_))
 ·simp only [nrm,xdn,reduceIte,Nat.reduceLT,Nat.reduceSub,Nat.reduceAdd,cJ] at h1 ⊢
  rw [if_pos (by omega)]
 ·simp only [nrm,xdn,reduceIte,Nat.reduceLT,Nat.reduceSub,Nat.reduceAdd,cJ] at h2 ⊢
  rw [if_pos (by omega)]
 simp only [nrm,xdn,reduceIte,Nat.reduceLT,Nat.reduceSub,Nat.reduceAdd,cJ] at h1 h2
 rw [if_neg (show ¬ (ts.length < 1∨5 < ts.length) by omega)]
 refine bO (fun ds=>∃ i : Nat,ds=[.i i]∧i≤ts.length∧eC m ts=eC m (ts.drop i)) (fun ds=>ts.length - (ds.getD 0 .u).int.toNat) ⟨0,rfl,by omega,rfl⟩ ?_
 rintro ds - ⟨i,rfl,hi,hs⟩
 refine G0 (fun hlt=>?_) (fun hge=>aj ?_)
 ·simp only [nrm,xdn,reduceIte,Nat.reduceLT,Nat.reduceSub,Nat.reduceAdd,cJ] at hlt
  obtain ⟨t,ht⟩ : ∃ t,ts.getD i default=t:=⟨_,rfl⟩
  rw [dL (show i < ts.length by omega),ht] at hs
  have hs : eC m ts=if dO m t≠0 then dO m t else eC m (ts.drop (i + 1)):=hs
  have e0 : ((G2 ts).rows.getD i []).getD 0 .u=.b t.busy:=by rw [iB 0 (by omega),ht];rfl
  have e15 : ((G2 ts).rows.getD i []).getD 15 .u=af t.held:=by rw [iB 15 (by omega),ht];rfl
  have bad : ∀ e : Int,e≠0→dO m t=e→[CD.i e]=[CD.i (eC m ts)]:=fun e he hx=>by rw [hs,hx,if_pos he]
  refine ag (by simp only [nrm,xdn,reduceIte,Nat.reduceLT,Nat.reduceSub,Nat.reduceAdd];omega) (G0 (fun h3=>aj ?_) (fun h3=>?_))
  ·simp only [nrm,xdn,reduceIte,Nat.reduceLT,Nat.reduceSub,Nat.reduceAdd,Int.toNat_natCast,e15,aw] at h3 ⊢
   exact bad 2 (by decide) (by unfold dO;rw [if_pos (by omega)])
  simp only [nrm,xdn,reduceIte,Nat.reduceLT,Nat.reduceSub,Nat.reduceAdd,Int.toNat_natCast,e15,aw] at h3
  have hh : dO m t=if fb m.slots.length t.held≠0 then fb m.slots.length t.held else if t.busy=true then eO m t.f else 0:=by unfold dO;rw [if_neg (by omega)]
  refine bO (fun ds=>∃ j : Nat,ds=[.i j]∧j≤t.held.length∧fb m.slots.length t.held=fb m.slots.length (t.held.drop j)) (fun ds=>t.held.length - (ds.getD 0 .u).int.toNat) ⟨0,rfl,by omega,rfl⟩ ?_
  rintro ds - ⟨j,rfl,hj,hq⟩
  refine G0 (fun hlt'=>?_) (fun hge'=>?_)
  ·simp only [nrm,xdn,reduceIte,Nat.reduceLT,Nat.reduceSub,Nat.reduceAdd,Int.toNat_natCast,e15,aw] at hlt'
   obtain ⟨a,ha⟩ : ∃ a,t.held.getD j 0=a:=⟨_,rfl⟩
   have hd : t.held.drop j=a :: t.held.drop (j + 1):=by rw [← ha];exact dL (show j < t.held.length by omega)
   rw [hd] at hq
   have hq : fb m.slots.length t.held=if a < 0∨(m.slots.length : Int)≤a then 5 else fb m.slots.length (t.held.drop (j + 1)):=hq
   refine ag (by simp only [nrm,xdn,reduceIte,Nat.reduceLT,Nat.reduceSub,Nat.reduceAdd];omega) (G0 (fun h4=>aj ?_) (fun h4=>G0 (fun h5=>aj ?_) (fun h5=>?_)))
   ·simp only [nrm,xdn,reduceIte,Nat.reduceLT,Nat.reduceSub,Nat.reduceAdd,Int.toNat_natCast,e15,aG,ha] at h4 ⊢
    rw [if_pos (.inl h4)] at hq
    exact bad 5 (by decide) (by rw [hh,hq];rfl)
   ·simp only [nrm,xdn,reduceIte,Nat.reduceLT,Nat.reduceSub,Nat.reduceAdd,Int.toNat_natCast,e15,aG,ha,aN] at h5 ⊢
    rw [if_pos (.inr h5)] at hq
    exact bad 5 (by decide) (by rw [hh,hq];rfl)
   simp only [nrm,xdn,reduceIte,Nat.reduceLT,Nat.reduceSub,Nat.reduceAdd,Int.toNat_natCast,e15,aG,ha,aN] at h4 h5
   rw [if_neg (by omega)] at hq
   refine G1 (by simp only [nrm,xdn,reduceIte,Nat.reduceLT,Nat.reduceSub,Nat.reduceAdd];omega) (aV ⟨⟨j + 1,?_,by omega,hq⟩,?_⟩)
   ·simp only [nrm,xdn,reduceIte,Nat.reduceLT,Nat.reduceSub,Nat.reduceAdd];rfl
   ·simp only [nrm,xdn,reduceIte,Nat.reduceLT,Nat.reduceSub,Nat.reduceAdd];omega
  ·simp only [nrm,xdn,reduceIte,Nat.reduceLT,Nat.reduceSub,Nat.reduceAdd,Int.toNat_natCast,e15,aw] at hge'
   rw [List.drop_eq_nil_of_le (show t.held.length≤j by omega)] at hq
   have hq : fb m.slots.length t.held=0:=hq
   rw [hq,if_neg (by simp)] at hh
   have e1 : ((G2 ts).rows.getD i []).getD 1 .u=.i t.f.c.kind:=by rw [iB 1 (by omega),ht];rfl
   have e2 : ((G2 ts).rows.getD i []).getD 2 .u=.i t.f.c.k.a:=by rw [iB 2 (by omega),ht];rfl
   have e3 : ((G2 ts).rows.getD i []).getD 3 .u=.i t.f.c.k.b:=by rw [iB 3 (by omega),ht];rfl
   have e4 : ((G2 ts).rows.getD i []).getD 4 .u=.i t.f.c.time:=by rw [iB 4 (by omega),ht];rfl
   have e5 : ((G2 ts).rows.getD i []).getD 5 .u=.i t.f.c.bucket:=by rw [iB 5 (by omega),ht];rfl
   have e6 : ((G2 ts).rows.getD i []).getD 6 .u=.i t.f.c.slot:=by rw [iB 6 (by omega),ht];rfl
   have e7 : ((G2 ts).rows.getD i []).getD 7 .u=.i t.f.pc:=by rw [iB 7 (by omega),ht];rfl
   have e8 : ((G2 ts).rows.getD i []).getD 8 .u=.i t.f.cur:=by rw [iB 8 (by omega),ht];rfl
   have e9 : ((G2 ts).rows.getD i []).getD 9 .u=.i t.f.prev:=by rw [iB 9 (by omega),ht];rfl
   have e10 : ((G2 ts).rows.getD i []).getD 10 .u=.i t.f.slot:=by rw [iB 10 (by omega),ht];rfl
   have e11 : ((G2 ts).rows.getD i []).getD 11 .u=.i t.f.n:=by rw [iB 11 (by omega),ht];rfl
   have e12 : ((G2 ts).rows.getD i []).getD 12 .u=bS t.f.keys:=by rw [iB 12 (by omega),ht];rfl
   have e13 : ((G2 ts).rows.getD i []).getD 13 .u=.b t.f.done:=by rw [iB 13 (by omega),ht];rfl
   have e14 : ((G2 ts).rows.getD i []).getD 14 .u=.i t.f.e:=by rw [iB 14 (by omega),ht];rfl
   refine G0 (fun h6=>?_) (fun h6=>?_)
   ·simp only [nrm,xdn,reduceIte,Nat.reduceLT,Nat.reduceSub,Nat.reduceAdd,Int.toNat_natCast,e0] at h6
    rw [if_pos h6] at hh
    refine ai d43 [.i (eO m t.f)] rfl trivial (by simp only [nrm,xdn,reduceIte,Nat.reduceLT,Nat.reduceSub,Nat.reduceAdd,Int.toNat_natCast,e1,e2,e3,e4,e5,e6,e7,e8,e9,e10,e11,e12,e13,e14,d43,mem_of,aA,List.drop_succ_cons,List.drop_zero,dJ]) (G0 (fun h7=>aj ?_) (fun h7=>?_))
    ·simp only [nrm,xdn,reduceIte,Nat.reduceLT,Nat.reduceSub,Nat.reduceAdd] at h7 ⊢
     exact bad _ (by simpa using h7) hh
    ·simp only [nrm,xdn,reduceIte,Nat.reduceLT,Nat.reduceSub,Nat.reduceAdd] at h7
     rw [hh,if_neg (by simpa using h7)] at hs
     refine G1 (by simp only [nrm,xdn,reduceIte,Nat.reduceLT,Nat.reduceSub,Nat.reduceAdd];omega) (fj (by decide) ⟨⟨i + 1,?_,by omega,hs⟩,?_⟩)
     ·simp only [nrm,xdn,reduceIte,Nat.reduceLT,Nat.reduceSub,Nat.reduceAdd];rfl
     ·simp only [nrm,xdn,reduceIte,Nat.reduceLT,Nat.reduceSub,Nat.reduceAdd];omega
   ·simp only [nrm,xdn,reduceIte,Nat.reduceLT,Nat.reduceSub,Nat.reduceAdd,Int.toNat_natCast,e0] at h6
    rw [if_neg (by rw [h6];exact Bool.false_ne_true)] at hh
    rw [hh,if_neg (by simp)] at hs
    refine G1 (by simp only [nrm,xdn,reduceIte,Nat.reduceLT,Nat.reduceSub,Nat.reduceAdd];omega) (fj (by decide) ⟨⟨i + 1,?_,by omega,hs⟩,?_⟩)
    ·simp only [nrm,xdn,reduceIte,Nat.reduceLT,Nat.reduceSub,Nat.reduceAdd];rfl
    ·simp only [nrm,xdn,reduceIte,Nat.reduceLT,Nat.reduceSub,Nat.reduceAdd];omega
 ·simp only [nrm,xdn,reduceIte,Nat.reduceLT,Nat.reduceSub,Nat.reduceAdd,cJ] at hge ⊢
  rw [hs,List.drop_eq_nil_of_le (show ts.length≤i by omega)]
  rfl
def s141 : Sig:=⟨[.agg [.fz kS,.fz kI,.fz kI,.fz kI,.int .i64,.fz kT]],[.one (.int .i64)]⟩
def d141 : DC:=⟨s141,fun _=>True,fun l=>[.i (bL (Wrd.of l))]⟩
def l141 : List (Nat × Ct):=[(58,d58.ct),(46,d46.ct)]
def z141 : Cx:={ T:=ttA,C:=sigs l141,F:=[],hints:=[⟨141,7,false,[(28,.lt)],[],[],[],0,0,false⟩,⟨141,12,false,[(39,.lt)],[],[],[],0,0,false⟩],sig:=s141}
def t141 : Tree :=
 (.call 58 [.var 0,.var 1,.var 2,.var 3,.var 4] 6
 (.ite (.not (.eq (.var 6) (.int 0)))
 (.ret [.var 6])
 (.ite (.lt (.len (.var 5)) (.int 1))
 (.ret [.int 3])
 (.ite (.lt (.int 5) (.len (.var 5)))
 (.ret [.int 3])
 (.loop 7 [.int .i64] [.int 0]
 (.ite (.lt (.var 8) (.len (.var 5)))
 (.need (.le (.int 0) (.var 8))
 (.ite (.lt (.int 100) (.len (.cell (.var 5) (.var 8) 15)))
 (.ret [.int 2])
 (.loop 9 [.int .i64] [.int 0]
 (.ite (.lt (.var 10) (.len (.cell (.var 5) (.var 8) 15)))
 (.need (.le (.int 0) (.var 10))
 (.ite (.lt (.cell (.cell (.var 5) (.var 8) 15) (.var 10) 0) (.int 0))
 (.ret [.int 5])
 (.ite (.le (.len (.var 0)) (.cell (.cell (.var 5) (.var 8) 15) (.var 10) 0))
 (.ret [.int 5])
 (.need (.fit (.add (.var 10) (.int 1)))
 (.back 9 [.add (.var 10) (.int 1)])))))
 (.ite (.cell (.var 5) (.var 8) 0)
 (.call 46 [.var 0,.var 1,.var 2,.var 3,.var 4,.cell (.var 5) (.var 8) 1,.cell (.var 5) (.var 8) 2,.cell (.var 5) (.var 8) 3,.cell (.var 5) (.var 8) 4,.cell (.var 5) (.var 8) 5,.cell (.var 5) (.var 8) 6,.cell (.var 5) (.var 8) 7,.cell (.var 5) (.var 8) 8,.cell (.var 5) (.var 8) 9,.cell (.var 5) (.var 8) 10,.cell (.var 5) (.var 8) 11,.cell (.var 5) (.var 8) 12,.cell (.var 5) (.var 8) 13,.cell (.var 5) (.var 8) 14] 11
 (.ite (.not (.eq (.var 11) (.int 0)))
 (.ret [.var 11])
 (.need (.fit (.add (.var 8) (.int 1)))
 (.back 7 [.add (.var 8) (.int 1)]))))
 (.need (.fit (.add (.var 8) (.int 1)))
 (.back 7 [.add (.var 8) (.int 1)])))))))
 (.ret [.int 0])))))))
theorem run141 : run z141 6000 [.code (Try.f141.body.getD .skip),.fin (bt z141 Try.f141.results.toList 50)] { fn:=141,tmps:=z141.sig.aM ++ List.replicate (Try.f141.ntmps - z141.sig.aM.length) (.v (.one .undef)),stk:=[],h:=z141.sig.h0,nx:=z141.sig.ins.length,known:=[]}=t141:=by kernel_rfl
theorem ok141 : cB Try.prog 141 d141.ct:=by
 refine aD (d:=d141) (Z:=z141) (Γ:=gam l141) (fn:=Try.f141) (c:=Try.f141.body.getD .skip) (bg tok mixed (all_cons ok58 (all_cons ok46 all_nil)) bh) Try.func141 (by kernel_rfl) (by kernel_rfl) rfl run141 fun E hk hp=>?_
 obtain ⟨hk0,hk1,hk2,hk3,hk4,hk5,_⟩:=hk
 obtain ⟨m,e0,e1,e2,e3,e4,b0,b1,b2,b3⟩:=cv (d0:=E 0) (d1:=E 1) (d2:=E 2) (d3:=E 3) (d4:=E 4) hk0 hk1 hk2 hk3 hk4
 obtain ⟨ts,e5,hts,b5⟩:=hU (d:=E 5) hk5
 have b5 : ts.length * 160≤140737488355328:=b5
 have el : aH E d141.sig.ins.length=[au m.slots,af m.heads,af m.free,af m.locks,.i m.now,G2 ts]:=by
  show [E 0,E 1,E 2,E 3,E 4,E 5]=_
  rw [e0,e1,e2,e3,e4,e5]
 rw [el] at hp
 rw [el]
 rw [Env.bJ el]
 clear el e0 e1 e2 e3 e4 e5
 have hown : ∀ t∈ts,t.own=false:=fun t ht=>(hts t ht).1
 have hc : d141.fn [au m.slots,af m.heads,af m.free,af m.locks,.i m.now,G2 ts]=[.i (bL ⟨m,ts⟩)]:=by
  simp only [d141,Wrd.of,mem_of,aA,List.getD_cons_zero,List.getD_cons_succ,fZ hown]
 rw [hc]
 unfold bL
 unfold t141
 refine ai d58 [.i (cP m)] rfl trivial (by simp only [nrm,xdn,reduceIte,Nat.reduceLT,Nat.reduceSub,Nat.reduceAdd,d58,mem_of,aA]) (G0 (fun h=>aj ?_) (fun h=>?_))
 ·simp only [nrm,xdn,reduceIte,Nat.reduceLT,Nat.reduceSub,Nat.reduceAdd] at h ⊢
  rw [if_pos (by simpa using h)]
 simp only [nrm,xdn,reduceIte,Nat.reduceLT,Nat.reduceSub,Nat.reduceAdd] at h
 rw [if_neg (by simpa using h)]
 refine G0 (fun h1=>aj ?_) (fun h1=>G0 (fun h2=>aj ?_) (fun h2=>?_))
 ·simp only [nrm,xdn,reduceIte,Nat.reduceLT,Nat.reduceSub,Nat.reduceAdd,cJ] at h1 ⊢
  rw [if_pos (by omega)]
 ·simp only [nrm,xdn,reduceIte,Nat.reduceLT,Nat.reduceSub,Nat.reduceAdd,cJ] at h2 ⊢
  rw [if_pos (by omega)]
 simp only [nrm,xdn,reduceIte,Nat.reduceLT,Nat.reduceSub,Nat.reduceAdd,cJ] at h1 h2
 rw [if_neg (show ¬ (ts.length < 1∨5 < ts.length) by omega)]
 refine bO (fun ds=>∃ i : Nat,ds=[.i i]∧i≤ts.length∧eC m ts=eC m (ts.drop i)) (fun ds=>ts.length - (ds.getD 0 .u).int.toNat) ⟨0,rfl,by omega,rfl⟩ ?_
 rintro ds - ⟨i,rfl,hi,hs⟩
 refine G0 (fun hlt=>?_) (fun hge=>aj ?_)
 ·simp only [nrm,xdn,reduceIte,Nat.reduceLT,Nat.reduceSub,Nat.reduceAdd,cJ] at hlt
  obtain ⟨t,ht⟩ : ∃ t,ts.getD i default=t:=⟨_,rfl⟩
  rw [dL (show i < ts.length by omega),ht] at hs
  have hs : eC m ts=if dO m t≠0 then dO m t else eC m (ts.drop (i + 1)):=hs
  have e0 : ((G2 ts).rows.getD i []).getD 0 .u=.b t.busy:=by rw [iB 0 (by omega),ht];rfl
  have e15 : ((G2 ts).rows.getD i []).getD 15 .u=af t.held:=by rw [iB 15 (by omega),ht];rfl
  have bad : ∀ e : Int,e≠0→dO m t=e→[CD.i e]=[CD.i (eC m ts)]:=fun e he hx=>by rw [hs,hx,if_pos he]
  refine ag (by simp only [nrm,xdn,reduceIte,Nat.reduceLT,Nat.reduceSub,Nat.reduceAdd];omega) (G0 (fun h3=>aj ?_) (fun h3=>?_))
  ·simp only [nrm,xdn,reduceIte,Nat.reduceLT,Nat.reduceSub,Nat.reduceAdd,Int.toNat_natCast,e15,aw] at h3 ⊢
   exact bad 2 (by decide) (by unfold dO;rw [if_pos (by omega)])
  simp only [nrm,xdn,reduceIte,Nat.reduceLT,Nat.reduceSub,Nat.reduceAdd,Int.toNat_natCast,e15,aw] at h3
  have hh : dO m t=if fb m.slots.length t.held≠0 then fb m.slots.length t.held else if t.busy=true then eO m t.f else 0:=by unfold dO;rw [if_neg (by omega)]
  refine bO (fun ds=>∃ j : Nat,ds=[.i j]∧j≤t.held.length∧fb m.slots.length t.held=fb m.slots.length (t.held.drop j)) (fun ds=>t.held.length - (ds.getD 0 .u).int.toNat) ⟨0,rfl,by omega,rfl⟩ ?_
  rintro ds - ⟨j,rfl,hj,hq⟩
  refine G0 (fun hlt'=>?_) (fun hge'=>?_)
  ·simp only [nrm,xdn,reduceIte,Nat.reduceLT,Nat.reduceSub,Nat.reduceAdd,Int.toNat_natCast,e15,aw] at hlt'
   obtain ⟨a,ha⟩ : ∃ a,t.held.getD j 0=a:=⟨_,rfl⟩
   have hd : t.held.drop j=a :: t.held.drop (j + 1):=by rw [← ha];exact dL (show j < t.held.length by omega)
   rw [hd] at hq
   have hq : fb m.slots.length t.held=if a < 0∨(m.slots.length : Int)≤a then 5 else fb m.slots.length (t.held.drop (j + 1)):=hq
   refine ag (by simp only [nrm,xdn,reduceIte,Nat.reduceLT,Nat.reduceSub,Nat.reduceAdd];omega) (G0 (fun h4=>aj ?_) (fun h4=>G0 (fun h5=>aj ?_) (fun h5=>?_)))
   ·simp only [nrm,xdn,reduceIte,Nat.reduceLT,Nat.reduceSub,Nat.reduceAdd,Int.toNat_natCast,e15,aG,ha] at h4 ⊢
    rw [if_pos (.inl h4)] at hq
    exact bad 5 (by decide) (by rw [hh,hq];rfl)
   ·simp only [nrm,xdn,reduceIte,Nat.reduceLT,Nat.reduceSub,Nat.reduceAdd,Int.toNat_natCast,e15,aG,ha,aN] at h5 ⊢
    rw [if_pos (.inr h5)] at hq
    exact bad 5 (by decide) (by rw [hh,hq];rfl)
   simp only [nrm,xdn,reduceIte,Nat.reduceLT,Nat.reduceSub,Nat.reduceAdd,Int.toNat_natCast,e15,aG,ha,aN] at h4 h5
   rw [if_neg (by omega)] at hq
   refine G1 (by simp only [nrm,xdn,reduceIte,Nat.reduceLT,Nat.reduceSub,Nat.reduceAdd];omega) (aV ⟨⟨j + 1,?_,by omega,hq⟩,?_⟩)
   ·simp only [nrm,xdn,reduceIte,Nat.reduceLT,Nat.reduceSub,Nat.reduceAdd];rfl
   ·simp only [nrm,xdn,reduceIte,Nat.reduceLT,Nat.reduceSub,Nat.reduceAdd];omega
  ·simp only [nrm,xdn,reduceIte,Nat.reduceLT,Nat.reduceSub,Nat.reduceAdd,Int.toNat_natCast,e15,aw] at hge'
   rw [List.drop_eq_nil_of_le (show t.held.length≤j by omega)] at hq
   have hq : fb m.slots.length t.held=0:=hq
   rw [hq,if_neg (by simp)] at hh
   have e1 : ((G2 ts).rows.getD i []).getD 1 .u=.i t.f.c.kind:=by rw [iB 1 (by omega),ht];rfl
   have e2 : ((G2 ts).rows.getD i []).getD 2 .u=.i t.f.c.k.a:=by rw [iB 2 (by omega),ht];rfl
   have e3 : ((G2 ts).rows.getD i []).getD 3 .u=.i t.f.c.k.b:=by rw [iB 3 (by omega),ht];rfl
   have e4 : ((G2 ts).rows.getD i []).getD 4 .u=.i t.f.c.time:=by rw [iB 4 (by omega),ht];rfl
   have e5 : ((G2 ts).rows.getD i []).getD 5 .u=.i t.f.c.bucket:=by rw [iB 5 (by omega),ht];rfl
   have e6 : ((G2 ts).rows.getD i []).getD 6 .u=.i t.f.c.slot:=by rw [iB 6 (by omega),ht];rfl
   have e7 : ((G2 ts).rows.getD i []).getD 7 .u=.i t.f.pc:=by rw [iB 7 (by omega),ht];rfl
   have e8 : ((G2 ts).rows.getD i []).getD 8 .u=.i t.f.cur:=by rw [iB 8 (by omega),ht];rfl
   have e9 : ((G2 ts).rows.getD i []).getD 9 .u=.i t.f.prev:=by rw [iB 9 (by omega),ht];rfl
   have e10 : ((G2 ts).rows.getD i []).getD 10 .u=.i t.f.slot:=by rw [iB 10 (by omega),ht];rfl
   have e11 : ((G2 ts).rows.getD i []).getD 11 .u=.i t.f.n:=by rw [iB 11 (by omega),ht];rfl
   have e12 : ((G2 ts).rows.getD i []).getD 12 .u=bS t.f.keys:=by rw [iB 12 (by omega),ht];rfl
   have e13 : ((G2 ts).rows.getD i []).getD 13 .u=.b t.f.done:=by rw [iB 13 (by omega),ht];rfl
   have e14 : ((G2 ts).rows.getD i []).getD 14 .u=.i t.f.e:=by rw [iB 14 (by omega),ht];rfl
   refine G0 (fun h6=>?_) (fun h6=>?_)
   ·simp only [nrm,xdn,reduceIte,Nat.reduceLT,Nat.reduceSub,Nat.reduceAdd,Int.toNat_natCast,e0] at h6
    rw [if_pos h6] at hh
    refine ai d46 [.i (eO m t.f)] rfl trivial (by simp only [nrm,xdn,reduceIte,Nat.reduceLT,Nat.reduceSub,Nat.reduceAdd,Int.toNat_natCast,e1,e2,e3,e4,e5,e6,e7,e8,e9,e10,e11,e12,e13,e14,d46,mem_of,aA,List.drop_succ_cons,List.drop_zero,dJ]) (G0 (fun h7=>aj ?_) (fun h7=>?_))
    ·simp only [nrm,xdn,reduceIte,Nat.reduceLT,Nat.reduceSub,Nat.reduceAdd] at h7 ⊢
     exact bad _ (by simpa using h7) hh
    ·simp only [nrm,xdn,reduceIte,Nat.reduceLT,Nat.reduceSub,Nat.reduceAdd] at h7
     rw [hh,if_neg (by simpa using h7)] at hs
     refine G1 (by simp only [nrm,xdn,reduceIte,Nat.reduceLT,Nat.reduceSub,Nat.reduceAdd];omega) (fj (by decide) ⟨⟨i + 1,?_,by omega,hs⟩,?_⟩)
     ·simp only [nrm,xdn,reduceIte,Nat.reduceLT,Nat.reduceSub,Nat.reduceAdd];rfl
     ·simp only [nrm,xdn,reduceIte,Nat.reduceLT,Nat.reduceSub,Nat.reduceAdd];omega
   ·simp only [nrm,xdn,reduceIte,Nat.reduceLT,Nat.reduceSub,Nat.reduceAdd,Int.toNat_natCast,e0] at h6
    rw [if_neg (by rw [h6];exact Bool.false_ne_true)] at hh
    rw [hh,if_neg (by simp)] at hs
    refine G1 (by simp only [nrm,xdn,reduceIte,Nat.reduceLT,Nat.reduceSub,Nat.reduceAdd];omega) (fj (by decide) ⟨⟨i + 1,?_,by omega,hs⟩,?_⟩)
    ·simp only [nrm,xdn,reduceIte,Nat.reduceLT,Nat.reduceSub,Nat.reduceAdd];rfl
    ·simp only [nrm,xdn,reduceIte,Nat.reduceLT,Nat.reduceSub,Nat.reduceAdd];omega
 ·simp only [nrm,xdn,reduceIte,Nat.reduceLT,Nat.reduceSub,Nat.reduceAdd,cJ] at hge ⊢
  rw [hs,List.drop_eq_nil_of_le (show ts.length≤i by omega)]
  rfl
end Go.Proofs.Ytpmamacjepcdmaa
