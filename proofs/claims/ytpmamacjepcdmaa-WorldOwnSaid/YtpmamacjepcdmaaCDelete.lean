import Derived.Test.YtpmamacjepcdmaaCSlices
namespace Go.Proofs.Ytpmamacjepcdmaa
open Go Go.Sy Go.RowKit
set_option linter.unusedSimpArgs false
set_option linter.unusedVariables false
theorem x8 {α : Type} {r : List α} {i j : Nat} (hij : i≤j) (hj : j≤r.length) (z : List α) :
  (((r.take i ++ ((r.drop j).take (r.length - j) ++ r.drop (i + (r.length - j)))).take (i + (r.length - j)) ++ z).take (i + (r.length - j)))=r.take i ++ r.drop j:=by
 have e1 : (r.drop j).take (r.length - j)=r.drop j:=List.take_of_length_le (by simp)
 have e2 : (r.take i ++ r.drop j).length=i + (r.length - j):=by simp;omega
 rw [e1,← List.append_assoc,List.take_left' e2,List.take_left' e2]
def s120 : Sig:=⟨[.one (.own 78 kW),.one (.int .i64),.one (.int .i64)],[.one (.own 78 kW)]⟩
def d120 : DC:=⟨s120,fun l=>0≤(l.getD 1 .u).int∧(l.getD 1 .u).int≤(l.getD 2 .u).int∧(l.getD 2 .u).int≤(l.getD 0 .u).Gf.length,fun l=>[eM ((l.getD 0 .u).Gf.take (l.getD 1 .u).int.toNat ++ (l.getD 0 .u).Gf.drop (l.getD 2 .u).int.toNat)]⟩
def l120 : List (Nat × Ct):=[]
def z120 : Cx:={ T:=ttA,C:=sigs l120,F:=[],hints:=[],sig:=s120}
def t120 : Tree :=
 (.need (.le (.int 0) (.var 1))
 (.need (.le (.var 1) (.var 2))
 (.need (.le (.var 2) (.len (.var 0)))
 (.ite (.eq (.var 1) (.var 2))
 (.ret [.var 0])
 (.need (.le (.var 1) (.len (.var 0)))
 (.need (.le (.int 0) (.var 2))
 (.need (.le (.add (.var 1) (.sub (.len (.var 0)) (.var 2))) (.len (.var 0)))
 (.need (.le (.add (.var 2) (.sub (.len (.var 0)) (.var 2))) (.len (.var 0)))
 (.need (.le (.int 0) (.add (.var 1) (.sub (.len (.var 0)) (.var 2))))
 (.need (.le (.len (.var 0)) (.add (.len (.take (.var 1) (.var 0))) (.add (.len (.take (.sub (.len (.var 0)) (.var 2)) (.drop (.var 2) (.var 0)))) (.len (.drop (.add (.var 1) (.sub (.len (.var 0)) (.var 2))) (.var 0))))))
 (.need (.le (.add (.add (.var 1) (.sub (.len (.var 0)) (.var 2))) (.sub (.len (.var 0)) (.add (.var 1) (.sub (.len (.var 0)) (.var 2))))) (.add (.len (.take (.var 1) (.var 0))) (.add (.len (.take (.sub (.len (.var 0)) (.var 2)) (.drop (.var 2) (.var 0)))) (.len (.drop (.add (.var 1) (.sub (.len (.var 0)) (.var 2))) (.var 0))))))
 (.need (.le (.add (.var 1) (.sub (.len (.var 0)) (.var 2))) (.add (.len (.take (.add (.var 1) (.sub (.len (.var 0)) (.var 2))) (.app (.take (.var 1) (.var 0)) (.app (.take (.sub (.len (.var 0)) (.var 2)) (.drop (.var 2) (.var 0))) (.drop (.add (.var 1) (.sub (.len (.var 0)) (.var 2))) (.var 0)))))) (.add (.len (.rep (.sub (.len (.var 0)) (.add (.var 1) (.sub (.len (.var 0)) (.var 2)))) (.cons (.int 0) (.cons (.int 0) (.cons (.int 0) (.cons (.int 0) .row0)))))) (.len (.drop (.add (.add (.var 1) (.sub (.len (.var 0)) (.var 2))) (.sub (.len (.var 0)) (.add (.var 1) (.sub (.len (.var 0)) (.var 2))))) (.app (.take (.var 1) (.var 0)) (.app (.take (.sub (.len (.var 0)) (.var 2)) (.drop (.var 2) (.var 0))) (.drop (.add (.var 1) (.sub (.len (.var 0)) (.var 2))) (.var 0)))))))))
 (.ret [.take (.add (.var 1) (.sub (.len (.var 0)) (.var 2))) (.app (.take (.add (.var 1) (.sub (.len (.var 0)) (.var 2))) (.app (.take (.var 1) (.var 0)) (.app (.take (.sub (.len (.var 0)) (.var 2)) (.drop (.var 2) (.var 0))) (.drop (.add (.var 1) (.sub (.len (.var 0)) (.var 2))) (.var 0))))) (.app (.rep (.sub (.len (.var 0)) (.add (.var 1) (.sub (.len (.var 0)) (.var 2)))) (.cons (.int 0) (.cons (.int 0) (.cons (.int 0) (.cons (.int 0) .row0))))) (.drop (.add (.add (.var 1) (.sub (.len (.var 0)) (.var 2))) (.sub (.len (.var 0)) (.add (.var 1) (.sub (.len (.var 0)) (.var 2))))) (.app (.take (.var 1) (.var 0)) (.app (.take (.sub (.len (.var 0)) (.var 2)) (.drop (.var 2) (.var 0))) (.drop (.add (.var 1) (.sub (.len (.var 0)) (.var 2))) (.var 0)))))))])))))))))))))
theorem run120 : run z120 6000 [.code (Try.f120.body.getD .skip),.fin (bt z120 Try.f120.results.toList 50)] { fn:=120,tmps:=z120.sig.aM ++ List.replicate (Try.f120.ntmps - z120.sig.aM.length) (.v (.one .undef)),stk:=[],h:=z120.sig.h0,nx:=z120.sig.ins.length,known:=[]}=t120:=by kernel_rfl
theorem ok120 : cB Try.prog 120 d120.ct:=by
 refine aD (d:=d120) (Z:=z120) (Γ:=gam l120) (fn:=Try.f120) (c:=Try.f120.body.getD .skip) (bg tok mixed all_nil bh) Try.func120 (by kernel_rfl) (by kernel_rfl) rfl run120 fun E hk hp=>?_
 obtain ⟨hk0,hk1,hk2,_⟩:=hk
 obtain ⟨l,e0,b0⟩:=HG (d:=E 0) hk0
 have b0 : l.length * 32≤140737488355328:=b0
 obtain ⟨x,e1⟩:=ok_int (d:=E 1) hk1
 obtain ⟨x2,e2⟩:=ok_int (d:=E 2) hk2
 have el : aH E d120.sig.ins.length=[eM l,.i x,.i x2]:=by
  show [E 0,E 1,E 2]=_
  rw [e0,e1,e2]
 rw [el] at hp
 rw [el]
 rw [Env.bJ el]
 clear el e0 e1 e2
 simp only [d120,List.getD_cons_zero,List.getD_cons_succ,CD.aR,G6] at hp ⊢
 obtain ⟨p0,p1,p2⟩:=hp
 obtain ⟨i,rfl⟩ : ∃ i : Nat,x=i:=⟨x.toNat,by omega⟩
 obtain ⟨j,rfl⟩ : ∃ j : Nat,x2=j:=⟨x2.toNat,by omega⟩
 simp only [Int.toNat_natCast]
 unfold t120
 have hf : ∀ l : List cI,(eM l).rows=l.map cI.row:=fun _=>rfl
 refine ag (by simp only [nrm,xdn,reduceIte,Nat.reduceLT,Nat.reduceSub,Nat.reduceAdd];omega) (ag (by simp only [nrm,xdn,reduceIte,Nat.reduceLT,Nat.reduceSub,Nat.reduceAdd];omega) (ag (by simp only [nrm,xdn,reduceIte,Nat.reduceLT,Nat.reduceSub,Nat.reduceAdd,iT];omega) (G0 (fun h=>aj ?_) (fun h=>?_))))
 ·simp only [nrm,xdn,reduceIte,Nat.reduceLT,Nat.reduceSub,Nat.reduceAdd] at h ⊢
  have : i=j:=by omega
  subst this
  rw [List.take_append_drop]
 simp only [nrm,xdn,reduceIte,Nat.reduceLT,Nat.reduceSub,Nat.reduceAdd] at h
 have hij : ¬ (i : Int)=j:=by simpa using h
 repeat refine ag (by simp only [nrm,xdn,reduceIte,Nat.reduceLT,Nat.reduceSub,Nat.reduceAdd,hf,List.length_take,List.length_drop,List.length_append,List.length_replicate,List.length_map];omega) ?_
 refine aj ?_
 simp only [nrm,xdn,reduceIte,Nat.reduceLT,Nat.reduceSub,Nat.reduceAdd,hf,List.length_map,Int.toNat_natCast]
 have en : ((i : Int) + ((l.length : Int) - (j : Int))).toNat=i + ((l.map cI.row).length - j):=by rw [List.length_map];omega
 have em : ((l.length : Int) - (j : Int)).toNat=(l.map cI.row).length - j:=by rw [List.length_map];omega
 rw [en,em,x8 (by omega) (by rw [List.length_map];omega)]
 simp only [eM,List.map_append,List.map_take,List.map_drop]
end Go.Proofs.Ytpmamacjepcdmaa
