import Derived.Test.YtpmamacjepcdmaaCMem2
namespace Go.Proofs.Ytpmamacjepcdmaa
open Go Go.Sy Go.RowKit
set_option linter.unusedSimpArgs false
set_option linter.unusedVariables false
theorem pj {m : Mem} (h : m.free.length≠0) : bc m∈m.free:=pA (by omega)
theorem pa {l : List Int} {n : Nat} (hd : l.Nodup) (h : ∀ a∈l,0≤a∧a < n) : l.length≤n:=by
 have h1 : (l.map Int.toNat).Nodup:=by
  refine List.pairwise_map.2 (List.Pairwise.imp_of_mem ?_ hd)
  intro a b ha hb hab e
  have:=h a ha
  have:=h b hb
  exact hab (by omega)
 have h2 : (l.map Int.toNat) ⊆ List.range n:=fun x hx=>by
  obtain ⟨a,ha,rfl⟩:=List.mem_map.1 hx
  have:=h a ha
  exact List.mem_range.2 (by omega)
 have:=h1.length_le_of_subset h2
 simpa using this
theorem bB.nf {m : Mem} (h : bB m) : m.free.length≤12:=by
 have h1:=pa h.nodup fun a ha=>⟨(h.free a ha).1,(h.free a ha).2.1⟩
 have:=h.ns
 omega
theorem bB.refs {m : Mem} (h : bB m) {a : Int} (h1 : 0≤a) (h2 : a < m.slots.length) : 0≤(msl m a.toNat).refs∧(msl m a.toNat).refs≤1000:=by
 have:=h.sl (i:=a.toNat) (by omega)
 exact ⟨this.r0,this.r1⟩
end Go.Proofs.Ytpmamacjepcdmaa

namespace Go.Proofs.Ytpmamacjepcdmaa
open Go Go.Sy Go.RowKit
set_option linter.unusedSimpArgs false
set_option linter.unusedVariables false
theorem Bf {Γ : Gam} {R : List CD→Prop} {E : Env} {J : JJ} {b : X} {t e : Tree} (h : (b.den E).bool=true) (ht : t.den Γ R E J) : (Tree.ite b t e).den Γ R E J:=⟨fun _=>ht,fun h'=>by rw [h] at h';cases h'⟩
theorem Fk {Γ : Gam} {R : List CD→Prop} {E : Env} {J : JJ} {b : X} {t e : Tree} (h : (b.den E).bool=false) (ht : e.den Γ R E J) : (Tree.ite b t e).den Γ R E J:=⟨fun h'=>by rw [h] at h';(cases h'),fun _=>ht⟩
def isKey (k : Key) : Bool:=decide (Key.Ok k)
theorem GC {k : Key} (h : isKey k=true) : Key.Ok k:=of_decide_eq_true h
theorem I0 {k : Key} (h : isKey k=false) : ¬ Key.Ok k:=of_decide_eq_false h
theorem JK (k : Key) : (if isKey k=true then (0 : Int) else 3)=checkKey k:=by simp only [isKey,checkKey,decide_eq_true_eq]
theorem HP {k : Key} (h : isKey k=true) : checkKey k=0:=by rw [← JK,if_pos h]
theorem Je {k : Key} (h : isKey k=false) : checkKey k=3:=by rw [← JK,h];rfl
def s65 : Sig:=⟨[.agg [.int .i64,.int .i64]],[.one (.bool)]⟩
def d65 : DC:=⟨s65,fun _=>True,fun l=>[.b (isKey (Key.of l))]⟩
theorem fn65 (k : Key) : d65.fn [.i k.a,.i k.b]=[.b (isKey k)]:=rfl
def l65 : List (Nat × Ct):=[]
def z65 : Cx:={ T:=ttA,C:=sigs l65,F:=[],hints:=[],sig:=s65}
def t65 : Tree :=
 (.ite (.le (.int 0) (.var 0))
 (.ite (.le (.var 0) (.int 15))
 (.ite (.le (.int 0) (.var 1))
 (.ret [.le (.var 1) (.int 15)])
 (.ret [.bool false]))
 (.ret [.bool false]))
 (.ret [.bool false]))
theorem run65 : run z65 6000 [.code (Try.f65.body.getD .skip),.fin (bt z65 Try.f65.results.toList 50)] { fn:=65,tmps:=z65.sig.aM ++ List.replicate (Try.f65.ntmps - z65.sig.aM.length) (.v (.one .undef)),stk:=[],h:=z65.sig.h0,nx:=z65.sig.ins.length,known:=[]}=t65:=by kernel_rfl
theorem ok65 : cB Try.prog 65 d65.ct:=by
 refine aD (d:=d65) (Z:=z65) (Γ:=gam l65) (fn:=Try.f65) (c:=Try.f65.body.getD .skip) (bg tok mixed all_nil bh) Try.func65 (by kernel_rfl) (by kernel_rfl) rfl run65 fun E hk hp=>?_
 obtain ⟨hk0,hk1,_⟩:=hk
 obtain ⟨k,e0,e1⟩:=vM (d0:=E 0) (d1:=E 1) hk0 hk1
 have el : aH E d65.sig.ins.length=[.i k.a,.i k.b]:=by
  show [E 0,E 1]=_
  rw [e0,e1]
 rw [el] at hp
 rw [el]
 rw [Env.bJ el]
 clear el e0 e1
 rw [fn65]
 unfold t65 isKey
 repeat' (first | refine G0 (fun h=>?_) (fun h=>?_) | refine aj ?_)
 all_goals
  simp only [nrm,xdn,reduceIte,Nat.reduceLT,Nat.reduceSub,Nat.reduceAdd] at *
  first
   | (simp only [List.cons.injEq,CD.b.injEq,and_true,decide_eq_decide];omega)
   | (rw [decide_eq_false (by omega)])
theorem F5 (b : Bool) : ((CD.find [[.b false,.i 3]] [.b b] 1).getD []).getD 1 (.i 0)=.i (if b=true then 0 else 3):=by cases b <;> rfl
def s45 : Sig:=⟨[.agg [.fz kS,.fz kI,.fz kI,.fz kI,.int .i64],.agg [.int .i64,.int .i64,.int .i64,.int .i64,.int .i64,.int .i64]],[.one (.int .i64)]⟩
def d45 : DC:=⟨s45,fun _=>True,fun l=>[.i (bf (Mem.of l) (Cal.of (l.drop 5)))]⟩
theorem fn45 (m : Mem) (c : Cal) : d45.fn [au m.slots,af m.heads,af m.free,af m.locks,.i m.now,.i c.kind,.i c.k.a,.i c.k.b,.i c.time,.i c.bucket,.i c.slot]=[.i (bf m c)]:=by
 simp only [d45,mem_of,aA,fG,cz,List.drop_succ_cons,List.drop_zero]
def l45 : List (Nat × Ct):=[(65,d65.ct)]
def z45 : Cx:={ T:=ttA,C:=sigs l45,F:=[],hints:=[],sig:=s45}
def t45 : Tree :=
 (.ite (.eq (.var 5) (.int 1))
 (.call 65 [.var 6,.var 7] 11
 (.ret [.look (.app (.cons (.bool false) (.cons (.int 3) .row0)) .nil) (.cons (.var 11) .row0) (.int 0) 1 1]))
 (.ite (.eq (.var 5) (.int 3))
 (.call 65 [.var 6,.var 7] 11
 (.ret [.look (.app (.cons (.bool false) (.cons (.int 3) .row0)) .nil) (.cons (.var 11) .row0) (.int 0) 1 1]))
 (.ite (.eq (.var 5) (.int 2))
 (.call 65 [.var 6,.var 7] 11
 (.ite (.var 11)
 (.ite (.le (.int 1) (.var 8))
 (.ret [.look (.app (.cons (.bool false) (.cons (.int 3) .row0)) .nil) (.cons (.le (.var 8) (.int 1000000)) .row0) (.int 0) 1 1])
 (.ret [.look (.app (.cons (.bool false) (.cons (.int 3) .row0)) .nil) (.cons (.bool false) .row0) (.int 0) 1 1]))
 (.ret [.look (.app (.cons (.bool false) (.cons (.int 3) .row0)) .nil) (.cons (.bool false) .row0) (.int 0) 1 1])))
 (.ite (.eq (.var 5) (.int 4))
 (.ite (.lt (.var 9) (.int 0))
 (.ret [.int 5])
 (.ite (.le (.len (.var 1)) (.var 9))
 (.ret [.int 5])
 (.ret [.int 0])))
 (.ite (.eq (.var 5) (.int 5))
 (.ite (.lt (.var 9) (.int 0))
 (.ret [.int 5])
 (.ite (.le (.len (.var 1)) (.var 9))
 (.ret [.int 5])
 (.ret [.int 0])))
 (.ite (.eq (.var 5) (.int 6))
 (.ite (.lt (.var 10) (.int 0))
 (.ret [.int 5])
 (.ite (.le (.len (.var 0)) (.var 10))
 (.ret [.int 5])
 (.ret [.int 0])))
 (.ret [.int 4])))))))
theorem run45 : run z45 6000 [.code (Try.f45.body.getD .skip),.fin (bt z45 Try.f45.results.toList 50)] { fn:=45,tmps:=z45.sig.aM ++ List.replicate (Try.f45.ntmps - z45.sig.aM.length) (.v (.one .undef)),stk:=[],h:=z45.sig.h0,nx:=z45.sig.ins.length,known:=[]}=t45:=by kernel_rfl
theorem ok45 : cB Try.prog 45 d45.ct:=by
 refine aD (d:=d45) (Z:=z45) (Γ:=gam l45) (fn:=Try.f45) (c:=Try.f45.body.getD .skip) (bg tok mixed (all_cons ok65 all_nil) bh) Try.func45 (by kernel_rfl) (by kernel_rfl) rfl run45 fun E hk hp=>?_
 obtain ⟨hk0,hk1,hk2,hk3,hk4,hk5,hk6,hk7,hk8,hk9,hk10,_⟩:=hk
 obtain ⟨m,e0,e1,e2,e3,e4,b0,b1,b2,b3⟩:=cv (d0:=E 0) (d1:=E 1) (d2:=E 2) (d3:=E 3) (d4:=E 4) hk0 hk1 hk2 hk3 hk4
 obtain ⟨c,e5,e6,e7,e8,e9,e10⟩:=kR (d0:=E 5) (d1:=E 6) (d2:=E 7) (d3:=E 8) (d4:=E 9) (d5:=E 10) hk5 hk6 hk7 hk8 hk9 hk10
 have el : aH E d45.sig.ins.length=[au m.slots,af m.heads,af m.free,af m.locks,.i m.now,.i c.kind,.i c.k.a,.i c.k.b,.i c.time,.i c.bucket,.i c.slot]:=by
  show [E 0,E 1,E 2,E 3,E 4,E 5,E 6,E 7,E 8,E 9,E 10]=_
  rw [e0,e1,e2,e3,e4,e5,e6,e7,e8,e9,e10]
 rw [el] at hp
 rw [el]
 rw [Env.bJ el]
 clear el e0 e1 e2 e3 e4 e5 e6 e7 e8 e9 e10
 unfold t45
 rw [fn45]
 unfold bf
 repeat' (first | refine G0 (fun h=>?_) (fun h=>?_) | refine ai d65 [.b (isKey c.k)] rfl trivial (by simp only [nrm,xdn,reduceIte,Nat.reduceLT,Nat.reduceSub,Nat.reduceAdd,fn65]) ?_ | refine aj ?_)
 all_goals
  simp only [nrm,xdn,reduceIte,Nat.reduceLT,Nat.reduceSub,Nat.reduceAdd,aN,aw,CD.row,List.headD_cons,lca,F5,JK] at *
 all_goals first
  | ((repeat (first | rw [if_pos (by omega)] | rw [if_neg (by omega)]));done)
  | (rw [HP (by assumption)];split <;> ((repeat (first | rw [if_pos (by omega)] | rw [if_neg (by omega)]));done))
  | (rw [HP (by assumption),if_neg (by decide)];(repeat (first | rw [if_pos (by omega)] | rw [if_neg (by omega)]));done)
  | (rw [Je (by assumption),if_neg (by decide),if_neg (by omega),if_pos (by omega)];split <;> rfl)
def s46 : Sig:=⟨[.agg [.fz kS,.fz kI,.fz kI,.fz kI,.int .i64],.agg [.int .i64,.int .i64,.int .i64,.int .i64,.int .i64,.int .i64,.int .i64,.int .i64,.int .i64,.int .i64,.int .i64,.fz kK,.bool,.int .i64]],[.one (.int .i64)]⟩
def d46 : DC:=⟨s46,fun _=>True,fun l=>[.i (eO (Mem.of l) (Frm.of (l.drop 5)))]⟩
theorem fn46 (m : Mem) (f : Frm) : d46.fn [au m.slots,af m.heads,af m.free,af m.locks,.i m.now,.i f.c.kind,.i f.c.k.a,.i f.c.k.b,.i f.c.time,.i f.c.bucket,.i f.c.slot,.i f.pc,.i f.cur,.i f.prev,.i f.slot,.i f.n,bS f.keys,.b f.done,.i f.e]=[.i (eO m f)]:=by
 simp only [d46,mem_of,aA,List.drop_succ_cons,List.drop_zero,dJ]
def l46 : List (Nat × Ct):=[(45,d45.ct)]
def z46 : Cx:={ T:=ttA,C:=sigs l46,F:=[],hints:=[],sig:=s46}
def t46 : Tree :=
 (.call 45 [.var 0,.var 1,.var 2,.var 3,.var 4,.var 5,.var 6,.var 7,.var 8,.var 9,.var 10] 19
 (.ite (.not (.eq (.var 19) (.int 0)))
 (.ret [.var 19])
 (.ite (.lt (.var 11) (.int 0))
 (.ret [.int 3])
 (.ite (.lt (.int 9) (.var 11))
 (.ret [.int 3])
 (.ite (.lt (.var 15) (.int 0))
 (.ret [.int 3])
 (.ite (.lt (.int 1000000) (.var 15))
 (.ret [.int 3])
 (.ite (.var 17)
 (.ret [.int 3])
 (.ite (.lt (.len (.var 0)) (.var 12))
 (.ret [.int 5])
 (.need (.fit (.sub (.int 0) (.len (.var 1))))
 (.ite (.lt (.var 12) (.sub (.int 0) (.len (.var 1))))
 (.ret [.int 5])
 (.ite (.lt (.var 13) (.int 0))
 (.ret [.int 5])
 (.ite (.lt (.len (.var 0)) (.var 13))
 (.ret [.int 5])
 (.ite (.lt (.var 14) (.int (-1)))
 (.ret [.int 5])
 (.ite (.le (.len (.var 0)) (.var 14))
 (.ret [.int 5])
 (.ite (.lt (.int 100) (.len (.var 16)))
 (.ret [.int 2])
 (.ret [.int 0]))))))))))))))))
theorem run46 : run z46 6000 [.code (Try.f46.body.getD .skip),.fin (bt z46 Try.f46.results.toList 50)] { fn:=46,tmps:=z46.sig.aM ++ List.replicate (Try.f46.ntmps - z46.sig.aM.length) (.v (.one .undef)),stk:=[],h:=z46.sig.h0,nx:=z46.sig.ins.length,known:=[]}=t46:=by kernel_rfl
theorem ok46 : cB Try.prog 46 d46.ct:=by
 refine aD (d:=d46) (Z:=z46) (Γ:=gam l46) (fn:=Try.f46) (c:=Try.f46.body.getD .skip) (bg tok mixed (all_cons ok45 all_nil) bh) Try.func46 (by kernel_rfl) (by kernel_rfl) rfl run46 fun E hk hp=>?_
 obtain ⟨hk0,hk1,hk2,hk3,hk4,hk5,hk6,hk7,hk8,hk9,hk10,hk11,hk12,hk13,hk14,hk15,hk16,hk17,hk18,_⟩:=hk
 obtain ⟨m,e0,e1,e2,e3,e4,b0,b1,b2,b3⟩:=cv (d0:=E 0) (d1:=E 1) (d2:=E 2) (d3:=E 3) (d4:=E 4) hk0 hk1 hk2 hk3 hk4
 obtain ⟨f,e5,e6,e7,e8,e9,e10,e11,e12,e13,e14,e15,e16,e17,e18,b16⟩:=ja (d0:=E 5) (d1:=E 6) (d2:=E 7) (d3:=E 8) (d4:=E 9) (d5:=E 10) (d6:=E 11) (d7:=E 12) (d8:=E 13) (d9:=E 14) (d10:=E 15) (d11:=E 16) (d12:=E 17) (d13:=E 18) hk5 hk6 hk7 hk8 hk9 hk10 hk11 hk12 hk13 hk14 hk15 hk16 hk17 hk18
 have el : aH E d46.sig.ins.length=[au m.slots,af m.heads,af m.free,af m.locks,.i m.now,.i f.c.kind,.i f.c.k.a,.i f.c.k.b,.i f.c.time,.i f.c.bucket,.i f.c.slot,.i f.pc,.i f.cur,.i f.prev,.i f.slot,.i f.n,bS f.keys,.b f.done,.i f.e]:=by
  show [E 0,E 1,E 2,E 3,E 4,E 5,E 6,E 7,E 8,E 9,E 10,E 11,E 12,E 13,E 14,E 15,E 16,E 17,E 18]=_
  rw [e0,e1,e2,e3,e4,e5,e6,e7,e8,e9,e10,e11,e12,e13,e14,e15,e16,e17,e18]
 rw [el] at hp
 rw [el]
 rw [Env.bJ el]
 clear el e0 e1 e2 e3 e4 e5 e6 e7 e8 e9 e10 e11 e12 e13 e14 e15 e16 e17 e18
 unfold t46
 rw [fn46]
 refine ai d45 [.i (bf m f.c)] rfl trivial (by simp only [nrm,xdn,reduceIte,Nat.reduceLT,Nat.reduceSub,Nat.reduceAdd,fn45]) ?_
 unfold eO
 repeat' (first | refine G0 (fun h=>?_) (fun h=>?_) | refine G1 ?_ ?_ | refine aj ?_)
 all_goals
  simp only [nrm,xdn,reduceIte,Nat.reduceLT,Nat.reduceSub,Nat.reduceAdd,aN,aw,bX,Bool.not_eq_true',Bool.not_eq_false',not_false_eq_true] at *
  first
   | omega
   | (repeat (first | rw [if_pos (by omega)] | rw [if_neg (by omega)] | rw [if_pos (by assumption)] | rw [if_neg (by simp [*])]))
def s88 : Sig:=⟨[.agg [.int .i64,.int .i64],.one (.int .i64)],[.one (.int .i64)]⟩
def d88 : DC:=⟨s88,fun l=>Key.Ok (Key.of l)∧1≤(l.getD 2 .u).int∧(l.getD 2 .u).int≤4,fun l=>[.i (aY (Key.of l) (l.getD 2 .u).int).1]⟩
theorem fn88 (k : Key) (n : Int) : d88.fn [.i k.a,.i k.b,.i n]=[.i (aY k n).1]:=rfl
def l88 : List (Nat × Ct):=[]
def z88 : Cx:={ T:=ttA,C:=sigs l88,F:=[],hints:=[],sig:=s88}
def t88 : Tree :=
 (.need (.fit (.add (.var 0) (.int 3)))
 (.need (.fit (.add (.var 1) (.int 7)))
 (.need (.fit (.mul (.add (.var 0) (.int 3)) (.add (.var 1) (.int 7))))
 (.need (.fit (.sub (.mul (.add (.var 0) (.int 3)) (.add (.var 1) (.int 7))) (.int 21)))
 (.need (.not (.eq (.var 2) (.int 0)))
 (.ret [.tmod (.sub (.mul (.add (.var 0) (.int 3)) (.add (.var 1) (.int 7))) (.int 21)) (.var 2)]))))))
theorem run88 : run z88 6000 [.code (Try.f88.body.getD .skip),.fin (bt z88 Try.f88.results.toList 50)] { fn:=88,tmps:=z88.sig.aM ++ List.replicate (Try.f88.ntmps - z88.sig.aM.length) (.v (.one .undef)),stk:=[],h:=z88.sig.h0,nx:=z88.sig.ins.length,known:=[]}=t88:=by kernel_rfl
theorem ok88 : cB Try.prog 88 d88.ct:=by
 refine aD (d:=d88) (Z:=z88) (Γ:=gam l88) (fn:=Try.f88) (c:=Try.f88.body.getD .skip) (bg tok mixed all_nil bh) Try.func88 (by kernel_rfl) (by kernel_rfl) rfl run88 fun E hk hp=>?_
 obtain ⟨hk0,hk1,hk2,_⟩:=hk
 obtain ⟨k,e0,e1⟩:=vM (d0:=E 0) (d1:=E 1) hk0 hk1
 obtain ⟨x,e2⟩:=ok_int (d:=E 2) hk2
 have el : aH E d88.sig.ins.length=[.i k.a,.i k.b,.i x]:=by
  show [E 0,E 1,E 2]=_
  rw [e0,e1,e2]
 rw [el] at hp
 rw [el]
 rw [Env.bJ el]
 clear el e0 e1 e2
 have hp : Key.Ok k∧1≤x∧x≤4:=hp
 obtain ⟨hk,hx1,hx2⟩:=hp
 have hb:=uQ hk.1 hk.2.1 hk.2.2.1 hk.2.2.2
 obtain ⟨k1,k2,k3,k4⟩:=id hk
 have he : (k.a + 3) * (k.b + 7) - 21=k.a * 7 + k.b * 3 + k.a * k.b:=by
  rw [Int.add_mul,Int.mul_add,Int.mul_add];omega
 rw [fn88]
 unfold t88 aY
 rw [if_pos hk,if_neg (by omega)]
 refine G1 ?_ (G1 ?_ (G1 ?_ (G1 ?_ (ag ?_ (aj ?_)))))
 all_goals simp only [nrm,xdn,reduceIte,Nat.reduceLT,Nat.reduceSub,Nat.reduceAdd,Bool.not_eq_true',he]
 all_goals omega
def s49 : Sig:=⟨[.agg [.fz kS,.fz kI,.fz kI,.fz kI,.int .i64],.agg [.int .i64,.int .i64,.int .i64,.int .i64,.int .i64,.int .i64]],[.one (.int .i64)]⟩
def d49 : DC:=⟨s49,fun _=>True,fun l=>[.i (aa (Mem.of l) (Cal.of (l.drop 5)))]⟩
theorem fn49 (m : Mem) (c : Cal) : d49.fn [au m.slots,af m.heads,af m.free,af m.locks,.i m.now,.i c.kind,.i c.k.a,.i c.k.b,.i c.time,.i c.bucket,.i c.slot]=[.i (aa m c)]:=by
 simp only [d49,mem_of,aA,fG,cz,List.drop_succ_cons,List.drop_zero]
def l49 : List (Nat × Ct):=[(65,d65.ct),(88,d88.ct)]
def z49 : Cx:={ T:=ttA,C:=sigs l49,F:=[],hints:=[],sig:=s49}
def t49 : Tree :=
 (.ite (.eq (.var 5) (.int 4))
 (.ret [.var 9])
 (.ite (.eq (.var 5) (.int 5))
 (.ret [.var 9])
 (.call 65 [.var 6,.var 7] 11
 (.ite (.not (.var 11))
 (.ret [.int 0])
 (.ite (.lt (.len (.var 1)) (.int 1))
 (.ret [.int 0])
 (.ite (.lt (.int 4) (.len (.var 1)))
 (.ret [.int 0])
 (.call 88 [.var 6,.var 7,.len (.var 1)] 12
 (.ret [.var 12]))))))))
theorem run49 : run z49 6000 [.code (Try.f49.body.getD .skip),.fin (bt z49 Try.f49.results.toList 50)] { fn:=49,tmps:=z49.sig.aM ++ List.replicate (Try.f49.ntmps - z49.sig.aM.length) (.v (.one .undef)),stk:=[],h:=z49.sig.h0,nx:=z49.sig.ins.length,known:=[]}=t49:=by kernel_rfl
theorem ok49 : cB Try.prog 49 d49.ct:=by
 refine aD (d:=d49) (Z:=z49) (Γ:=gam l49) (fn:=Try.f49) (c:=Try.f49.body.getD .skip) (bg tok mixed (all_cons ok65 (all_cons ok88 all_nil)) bh) Try.func49 (by kernel_rfl) (by kernel_rfl) rfl run49 fun E hk hp=>?_
 obtain ⟨hk0,hk1,hk2,hk3,hk4,hk5,hk6,hk7,hk8,hk9,hk10,_⟩:=hk
 obtain ⟨m,e0,e1,e2,e3,e4,b0,b1,b2,b3⟩:=cv (d0:=E 0) (d1:=E 1) (d2:=E 2) (d3:=E 3) (d4:=E 4) hk0 hk1 hk2 hk3 hk4
 obtain ⟨c,e5,e6,e7,e8,e9,e10⟩:=kR (d0:=E 5) (d1:=E 6) (d2:=E 7) (d3:=E 8) (d4:=E 9) (d5:=E 10) hk5 hk6 hk7 hk8 hk9 hk10
 have el : aH E d49.sig.ins.length=[au m.slots,af m.heads,af m.free,af m.locks,.i m.now,.i c.kind,.i c.k.a,.i c.k.b,.i c.time,.i c.bucket,.i c.slot]:=by
  show [E 0,E 1,E 2,E 3,E 4,E 5,E 6,E 7,E 8,E 9,E 10]=_
  rw [e0,e1,e2,e3,e4,e5,e6,e7,e8,e9,e10]
 rw [el] at hp
 rw [el]
 rw [Env.bJ el]
 clear el e0 e1 e2 e3 e4 e5 e6 e7 e8 e9 e10
 unfold t49
 rw [fn49]
 unfold aa
 refine G0 (fun h=>?_) (fun h=>G0 (fun h'=>?_) (fun h'=>?_))
 ·simp only [nrm,xdn,reduceIte,Nat.reduceLT,Nat.reduceSub,Nat.reduceAdd] at h
  rw [if_pos (.inl h)]
  refine aj ?_
  simp only [nrm,xdn,reduceIte,Nat.reduceLT,Nat.reduceSub,Nat.reduceAdd]
 ·simp only [nrm,xdn,reduceIte,Nat.reduceLT,Nat.reduceSub,Nat.reduceAdd] at h'
  rw [if_pos (.inr h')]
  refine aj ?_
  simp only [nrm,xdn,reduceIte,Nat.reduceLT,Nat.reduceSub,Nat.reduceAdd]
 simp only [nrm,xdn,reduceIte,Nat.reduceLT,Nat.reduceSub,Nat.reduceAdd] at h h'
 rw [if_neg (by omega)]
 refine ai d65 [.b (isKey c.k)] rfl trivial (by simp only [nrm,xdn,reduceIte,Nat.reduceLT,Nat.reduceSub,Nat.reduceAdd,fn65]) ?_
 refine G0 (fun h1=>aj ?_) (fun h1=>G0 (fun h2=>aj ?_) (fun h2=>G0 (fun h3=>aj ?_) (fun h3=>?_)))
 ·simp only [nrm,xdn,reduceIte,Nat.reduceLT,Nat.reduceSub,Nat.reduceAdd,Bool.not_eq_true'] at h1 ⊢
  unfold aY
  rw [if_neg (I0 h1)]
 ·simp only [nrm,xdn,reduceIte,Nat.reduceLT,Nat.reduceSub,Nat.reduceAdd,Bool.not_eq_false',aw] at h1 h2 ⊢
  unfold aY
  rw [if_pos (GC h1),if_pos (by omega)]
 ·simp only [nrm,xdn,reduceIte,Nat.reduceLT,Nat.reduceSub,Nat.reduceAdd,Bool.not_eq_false',aw] at h1 h3 ⊢
  unfold aY
  rw [if_pos (GC h1),if_pos (by omega)]
 simp only [nrm,xdn,reduceIte,Nat.reduceLT,Nat.reduceSub,Nat.reduceAdd,Bool.not_eq_false',aw] at h1 h2 h3
 refine ai d88 [.i (aY c.k m.heads.length).1] rfl ?_ (by simp only [nrm,xdn,reduceIte,Nat.reduceLT,Nat.reduceSub,Nat.reduceAdd,aw,fn88]) (aj ?_)
 ·simp only [nrm,xdn,reduceIte,Nat.reduceLT,Nat.reduceSub,Nat.reduceAdd,aw]
  exact ⟨GC h1,by simp only [nrm,xdn,reduceIte,Nat.reduceLT,Nat.reduceSub,Nat.reduceAdd];omega,by simp only [nrm,xdn,reduceIte,Nat.reduceLT,Nat.reduceSub,Nat.reduceAdd];omega⟩
 ·simp only [nrm,xdn,reduceIte,Nat.reduceLT,Nat.reduceSub,Nat.reduceAdd]
end Go.Proofs.Ytpmamacjepcdmaa

namespace Go.Proofs.Ytpmamacjepcdmaa
open Go Go.Sy Go.RowKit
set_option linter.unusedSimpArgs false
set_option linter.unusedVariables false
def s62 : Sig:=⟨[.agg [.fz kS,.fz kI,.fz kI,.fz kI,.int .i64]],[.agg [.own 52 kS,.own 3 kI,.own 3 kI,.own 3 kI,.int .i64]]⟩
def d62 : DC:=⟨s62,fun _=>True,fun l=>(Mem.of l).cds⟩
theorem fn62 (m : Mem) : d62.fn [au m.slots,af m.heads,af m.free,af m.locks,.i m.now]=m.cds:=by simp only [d62,mem_of,aA]
def l62 : List (Nat × Ct):=[]
def z62 : Cx:={ T:=ttA,C:=sigs l62,F:=[],hints:=[],sig:=s62}
def t62 : Tree :=
 (.need (.le (.len (.var 0)) (.int 2932031007402))
 (.need (.le (.len (.var 1)) (.int 17592186044416))
 (.need (.le (.len (.var 2)) (.int 17592186044416))
 (.need (.le (.len (.var 3)) (.int 17592186044416))
 (.ret [.app .nil (.var 0),.app .nil (.var 1),.app .nil (.var 2),.app .nil (.var 3),.var 4])))))
theorem run62 : run z62 6000 [.code (Try.f62.body.getD .skip),.fin (bt z62 Try.f62.results.toList 50)] { fn:=62,tmps:=z62.sig.aM ++ List.replicate (Try.f62.ntmps - z62.sig.aM.length) (.v (.one .undef)),stk:=[],h:=z62.sig.h0,nx:=z62.sig.ins.length,known:=[]}=t62:=by kernel_rfl
theorem ok62 : cB Try.prog 62 d62.ct:=by
 refine aD (d:=d62) (Z:=z62) (Γ:=gam l62) (fn:=Try.f62) (c:=Try.f62.body.getD .skip) (bg tok mixed all_nil bh) Try.func62 (by kernel_rfl) (by kernel_rfl) rfl run62 fun E hk hp=>?_
 obtain ⟨hk0,hk1,hk2,hk3,hk4,_⟩:=hk
 obtain ⟨m,e0,e1,e2,e3,e4,b0,b1,b2,b3⟩:=cv (d0:=E 0) (d1:=E 1) (d2:=E 2) (d3:=E 3) (d4:=E 4) hk0 hk1 hk2 hk3 hk4
 have el : aH E d62.sig.ins.length=[au m.slots,af m.heads,af m.free,af m.locks,.i m.now]:=by
  show [E 0,E 1,E 2,E 3,E 4]=_
  rw [e0,e1,e2,e3,e4]
 rw [el] at hp
 rw [el]
 rw [Env.bJ el]
 clear el e0 e1 e2 e3 e4
 rw [fn62]
 unfold t62
 refine eh (by simp only [nrm,xdn,reduceIte,Nat.reduceLT,Nat.reduceSub,Nat.reduceAdd,aN];omega) (eh (by simp only [nrm,xdn,reduceIte,Nat.reduceLT,Nat.reduceSub,Nat.reduceAdd,aw];omega) (eh (by simp only [nrm,xdn,reduceIte,Nat.reduceLT,Nat.reduceSub,Nat.reduceAdd,aw];omega) (eh (by simp only [nrm,xdn,reduceIte,Nat.reduceLT,Nat.reduceSub,Nat.reduceAdd,aw];omega) (aj ?_))))
 simp only [nrm,xdn,reduceIte,Nat.reduceLT,Nat.reduceSub,Nat.reduceAdd,List.nil_append,Mem.cds]
 rfl
def F2 (L : List Int) : CD:=.l (L.map fun k=>[.i k,.b true])
theorem Iz (k : Int) : ∀ L : List Int,((CD.find (F2 L).rows [.i k] 1).getD []).getD 1 (.b false)=.b (decide (k∈L))
 | []=>rfl
 | a :: L=>by
  have ih:=Iz k L
  simp only [F2,CD.ax,CD.find,List.map_cons,List.find?_cons,List.take_succ_cons,List.take_zero,kJ,CD.eqs,Bool.and_true] at ih ⊢
  cases h : (a ==k) with
  | true =>
   have:=eq_of_beq h
   subst this
   simp
  | false =>
   have : k≠a:=fun e=>by subst e;simp at h
   simp only [ih,List.mem_cons,this,false_or]
def s58 : Sig:=⟨[.agg [.fz kS,.fz kI,.fz kI,.fz kI,.int .i64]],[.one (.int .i64)]⟩
def d58 : DC:=⟨s58,fun _=>True,fun l=>[.i (cP (Mem.of l))]⟩
theorem fn58 (m : Mem) : d58.fn [au m.slots,af m.heads,af m.free,af m.locks,.i m.now]=[.i (cP m)]:=by simp only [d58,mem_of,aA]
def l58 : List (Nat × Ct):=[(65,d65.ct)]
def z58 : Cx:={ T:=ttA,C:=sigs l58,F:=[],hints:=[⟨58,9,false,[(46,.lt)],[],[],[],0,0,false⟩,⟨58,17,false,[(87,.lt)],[],[],[],0,0,false⟩,⟨58,27,false,[(127,.lt)],[],[],[0],0,0,false⟩,⟨58,36,false,[(156,.lt)],[],[],[],0,0,false⟩],sig:=s58}
def t58 : Tree :=
 (.ite (.lt (.int 12) (.len (.var 0)))
 (.ret [.int 2])
 (.ite (.lt (.len (.var 1)) (.int 1))
 (.ret [.int 2])
 (.ite (.lt (.int 4) (.len (.var 1)))
 (.ret [.int 2])
 (.ite (.not (.eq (.len (.var 3)) (.len (.var 1))))
 (.ret [.int 4])
 (.ite (.lt (.var 4) (.int 0))
 (.ret [.int 3])
 (.ite (.lt (.int 1000000) (.var 4))
 (.ret [.int 3])
 (.loop 5 [.int .i64] [.int 0]
 (.ite (.lt (.var 6) (.len (.var 0)))
 (.need (.le (.int 0) (.var 6))
 (.ite (.lt (.cell (.var 0) (.var 6) 0) (.int 0))
 (.ret [.int 3])
 (.ite (.lt (.int 1000) (.cell (.var 0) (.var 6) 0))
 (.ret [.int 3])
 (.ite (.lt (.cell (.var 0) (.var 6) 3) (.int 0))
 (.ret [.int 3])
 (.ite (.lt (.int 2000000) (.cell (.var 0) (.var 6) 3))
 (.ret [.int 3])
 (.call 65 [.cell (.var 0) (.var 6) 1,.cell (.var 0) (.var 6) 2] 7
 (.ite (.not (.var 7))
 (.ret [.int 3])
 (.ite (.lt (.len (.var 0)) (.cell (.var 0) (.var 6) 5))
 (.ret [.int 5])
 (.need (.fit (.sub (.int 0) (.len (.var 1))))
 (.ite (.lt (.cell (.var 0) (.var 6) 5) (.sub (.int 0) (.len (.var 1))))
 (.ret [.int 5])
 (.need (.fit (.add (.var 6) (.int 1)))
 (.back 5 [.add (.var 6) (.int 1)]))))))))))))
 (.loop 7 [.int .i64] [.int 0]
 (.ite (.lt (.var 8) (.len (.var 1)))
 (.need (.le (.int 0) (.var 8))
 (.ite (.eq (.cell (.var 1) (.var 8) 0) (.int 0))
 (.ret [.int 5])
 (.ite (.lt (.len (.var 0)) (.cell (.var 1) (.var 8) 0))
 (.ret [.int 5])
 (.need (.fit (.sub (.int 0) (.len (.var 1))))
 (.ite (.lt (.cell (.var 1) (.var 8) 0) (.sub (.int 0) (.len (.var 1))))
 (.ret [.int 5])
 (.need (.lt (.var 8) (.len (.var 3)))
 (.ite (.lt (.cell (.var 3) (.var 8) 0) (.int (-1)))
 (.ret [.int 3])
 (.ite (.lt (.int 4) (.cell (.var 3) (.var 8) 0))
 (.ret [.int 3])
 (.need (.fit (.add (.var 8) (.int 1)))
 (.back 7 [.add (.var 8) (.int 1)]))))))))))
 (.loop 9 [.int .i64,.sl 0 [.int .i64,.bool]] [.int 0,.nil]
 (.ite (.lt (.var 10) (.len (.var 2)))
 (.need (.le (.int 0) (.var 10))
 (.ite (.lt (.cell (.var 2) (.var 10) 0) (.int 0))
 (.ret [.int 5])
 (.ite (.le (.len (.var 0)) (.cell (.var 2) (.var 10) 0))
 (.ret [.int 5])
 (.need (.le (.int 0) (.cell (.var 2) (.var 10) 0))
 (.need (.lt (.cell (.var 2) (.var 10) 0) (.len (.var 0)))
 (.ite (.lt (.int 0) (.cell (.var 0) (.cell (.var 2) (.var 10) 0) 0))
 (.ret [.int 5])
 (.ite (.look (.var 11) (.cons (.cell (.var 2) (.var 10) 0) .row0) (.bool false) 1 1)
 (.ret [.int 6])
 (.need (.fit (.add (.var 10) (.int 1)))
 (.back 9 [.add (.var 10) (.int 1),.app (.cons (.cell (.var 2) (.var 10) 0) (.cons (.bool true) .row0)) (.var 11)])))))))))
 (.loop 12 [.int .i64] [.int 0]
 (.ite (.lt (.var 13) (.len (.var 0)))
 (.need (.le (.int 0) (.var 13))
 (.ite (.eq (.cell (.var 0) (.var 13) 0) (.int 0))
 (.ite (.not (.look (.var 11) (.cons (.var 13) .row0) (.bool false) 1 1))
 (.ret [.int 4])
 (.need (.fit (.add (.var 13) (.int 1)))
 (.back 12 [.add (.var 13) (.int 1)])))
 (.need (.fit (.add (.var 13) (.int 1)))
 (.back 12 [.add (.var 13) (.int 1)]))))
 (.ret [.int 0])))))))))))))))
theorem run58 : run z58 6000 [.code (Try.f58.body.getD .skip),.fin (bt z58 Try.f58.results.toList 50)] { fn:=58,tmps:=z58.sig.aM ++ List.replicate (Try.f58.ntmps - z58.sig.aM.length) (.v (.one .undef)),stk:=[],h:=z58.sig.h0,nx:=z58.sig.ins.length,known:=[]}=t58:=by kernel_rfl
theorem ok58 : cB Try.prog 58 d58.ct:=by
 refine aD (d:=d58) (Z:=z58) (Γ:=gam l58) (fn:=Try.f58) (c:=Try.f58.body.getD .skip) (bg tok mixed (all_cons ok65 all_nil) bh) Try.func58 (by kernel_rfl) (by kernel_rfl) rfl run58 fun E hk hp=>?_
 obtain ⟨hk0,hk1,hk2,hk3,hk4,_⟩:=hk
 obtain ⟨m,e0,e1,e2,e3,e4,b0,b1,b2,b3⟩:=cv (d0:=E 0) (d1:=E 1) (d2:=E 2) (d3:=E 3) (d4:=E 4) hk0 hk1 hk2 hk3 hk4
 have el : aH E d58.sig.ins.length=[au m.slots,af m.heads,af m.free,af m.locks,.i m.now]:=by
  show [E 0,E 1,E 2,E 3,E 4]=_
  rw [e0,e1,e2,e3,e4]
 rw [el] at hp
 rw [el]
 rw [Env.bJ el]
 clear el e0 e1 e2 e3 e4
 rw [fn58]
 unfold t58
 refine G0 (fun h=>?_) (fun h1=>G0 (fun h=>?_) (fun h2=>G0 (fun h=>?_) (fun h3=>G0 (fun h=>?_) (fun h4=>G0 (fun h=>?_) (fun h5=>G0 (fun h=>?_) (fun h6=>?_))))))
 case refine_1 | refine_2 | refine_3 | refine_4 | refine_5 | refine_6 =>
  refine aj ?_
  simp only [nrm,xdn,reduceIte,Nat.reduceLT,Nat.reduceSub,Nat.reduceAdd,aN,aw,Bool.not_eq_true',Bool.not_eq_false'] at *
  unfold cP
  repeat (first | rw [if_pos (by omega)] | rw [if_neg (by omega)])
 simp only [nrm,xdn,reduceIte,Nat.reduceLT,Nat.reduceSub,Nat.reduceAdd,aN,aw,Bool.not_eq_true',Bool.not_eq_false'] at h1 h2 h3 h4 h5 h6
 unfold cP
 rw [if_neg (by omega),if_neg (by omega),if_neg (by omega)]
 have hl : m.locks.length=m.heads.length:=by omega
 refine bO (fun ds=>∃ i : Nat,ds=[.i i]∧i≤m.slots.length∧Hq m.slots.length m.heads.length m.slots=Hq m.slots.length m.heads.length (m.slots.drop i)) (fun ds=>m.slots.length - (ds.getD 0 .u).int.toNat) ⟨0,rfl,by omega,rfl⟩ ?_
 rintro ds - ⟨i,rfl,hi,ht⟩
 refine G0 (fun hlt=>?_) (fun hge=>?_)
 ·simp only [nrm,xdn,reduceIte,Nat.reduceLT,Nat.reduceSub,Nat.reduceAdd,aN] at hlt
  have hs:=um (ns:=m.slots.length) (nh:=m.heads.length) (l:=m.slots) (i:=i) (by omega)
  refine ag (by simp only [nrm,xdn,reduceIte,Nat.reduceLT,Nat.reduceSub,Nat.reduceAdd];omega) ?_
  have bad : ∀ e : Int,e≠0→gb m.slots.length m.heads.length (m.slots.getD i default)=e→[CD.i e]=[CD.i (if Hq m.slots.length m.heads.length m.slots≠0 then Hq m.slots.length m.heads.length m.slots else if cV m.slots.length m.heads.length m.heads m.locks≠0 then cV m.slots.length m.heads.length m.heads m.locks
    else if (bD m.slots m.free (List.replicate m.slots.length false)).1≠0 then (bD m.slots m.free (List.replicate m.slots.length false)).1 else Hv m.slots (bD m.slots m.free (List.replicate m.slots.length false)).2)]:=fun e he hx=>by
   have : Hq m.slots.length m.heads.length m.slots=e:=by rw [ht,hs,hx,if_pos he]
   rw [this,if_pos he]
  refine G0 (fun c1=>aj ?_) (fun c1=>G0 (fun c2=>aj ?_) (fun c2=>G0 (fun c3=>aj ?_) (fun c3=>G0 (fun c4=>aj ?_) (fun c4=>?_))))
  case refine_1 | refine_2 | refine_3 | refine_4 =>
   simp only [nrm,xdn,reduceIte,Nat.reduceLT,Nat.reduceSub,Nat.reduceAdd,Int.toNat_natCast,cX,cy] at *
   exact bad 3 (by decide) (by unfold gb;rw [if_pos (by omega)])
  simp only [nrm,xdn,reduceIte,Nat.reduceLT,Nat.reduceSub,Nat.reduceAdd,Int.toNat_natCast,cX,cy] at c1 c2 c3 c4
  refine ai d65 [.b (isKey (m.slots.getD i default).k)] rfl trivial (by simp only [nrm,xdn,reduceIte,Nat.reduceLT,Nat.reduceSub,Nat.reduceAdd,d65,zF,cG,cF,eZ,Int.toNat_natCast]) (G0 (fun c5=>aj ?_) (fun c5=>?_))
  ·simp only [nrm,xdn,reduceIte,Nat.reduceLT,Nat.reduceSub,Nat.reduceAdd,Bool.not_eq_true'] at c5
   exact bad 3 (by decide) (by unfold gb;rw [if_neg (by omega),Je c5,if_pos (by decide)])
  simp only [nrm,xdn,reduceIte,Nat.reduceLT,Nat.reduceSub,Nat.reduceAdd,Bool.not_eq_false'] at c5
  have c5:=HP c5
  refine G0 (fun c6=>aj ?_) (fun c6=>G1 (by simp only [nrm,xdn,reduceIte,Nat.reduceLT,Nat.reduceSub,Nat.reduceAdd,aw];omega) (G0 (fun c7=>aj ?_) (fun c7=>?_)))
  case refine_1 | refine_2 =>
   simp only [nrm,xdn,reduceIte,Nat.reduceLT,Nat.reduceSub,Nat.reduceAdd,Int.toNat_natCast,cE,aN,aw] at *
   exact bad 5 (by decide) (by unfold gb;rw [if_neg (by omega),if_neg (by omega),if_neg (by omega)])
  simp only [nrm,xdn,reduceIte,Nat.reduceLT,Nat.reduceSub,Nat.reduceAdd,Int.toNat_natCast,cE,aN,aw] at c6 c7
  refine G1 (by simp only [nrm,xdn,reduceIte,Nat.reduceLT,Nat.reduceSub,Nat.reduceAdd];omega) (aV ⟨⟨i + 1,?_,by omega,?_⟩,?_⟩)
  ·simp only [nrm,xdn,reduceIte,Nat.reduceLT,Nat.reduceSub,Nat.reduceAdd];rfl
  ·rw [ht,hs,if_neg (fun hx=>hx (by unfold gb;rw [if_neg (by omega),if_neg (by omega),if_pos (by omega)]))]
  ·simp only [nrm,xdn,reduceIte,Nat.reduceLT,Nat.reduceSub,Nat.reduceAdd];omega
 simp only [nrm,xdn,reduceIte,Nat.reduceLT,Nat.reduceSub,Nat.reduceAdd,aN] at hge
 have hS : Hq m.slots.length m.heads.length m.slots=0:=by rw [ht,List.drop_of_length_le (by omega)];rfl
 have hsl:=kD.1 hS
 rw [hS,if_neg (fun h=>h rfl)]
 clear hge ht hi
 refine bO (fun ds=>∃ i : Nat,ds=[.i i]∧i≤m.heads.length∧cV m.slots.length m.heads.length m.heads m.locks=cV m.slots.length m.heads.length (m.heads.drop i) (m.locks.drop i)) (fun ds=>m.heads.length - (ds.getD 0 .u).int.toNat) ⟨0,rfl,by omega,rfl⟩ ?_
 rintro ds - ⟨j,rfl,hj,ht⟩
 refine G0 (fun hlt=>?_) (fun hge=>?_)
 ·simp only [nrm,xdn,reduceIte,Nat.reduceLT,Nat.reduceSub,Nat.reduceAdd,aw] at hlt
  have hs:=uu (ns:=m.slots.length) (nh:=m.heads.length) (l:=m.heads) (m:=m.locks) (i:=j) (by omega) (by omega)
  refine ag (by simp only [nrm,xdn,reduceIte,Nat.reduceLT,Nat.reduceSub,Nat.reduceAdd];omega) ?_
  have bad : ∀ e : Int,e≠0→gw m.slots.length m.heads.length (m.heads.getD j 0) (m.locks.getD j 0)=e→[CD.i e]=[CD.i (if cV m.slots.length m.heads.length m.heads m.locks≠0 then cV m.slots.length m.heads.length m.heads m.locks
    else if (bD m.slots m.free (List.replicate m.slots.length false)).1≠0 then (bD m.slots m.free (List.replicate m.slots.length false)).1 else Hv m.slots (bD m.slots m.free (List.replicate m.slots.length false)).2)]:=fun e he hx=>by
   have : cV m.slots.length m.heads.length m.heads m.locks=e:=by rw [ht,hs,hx,if_pos he]
   rw [this,if_pos he]
  refine G0 (fun c1=>aj ?_) (fun c1=>G0 (fun c2=>aj ?_) (fun c2=>G1 (by simp only [nrm,xdn,reduceIte,Nat.reduceLT,Nat.reduceSub,Nat.reduceAdd,aw];omega) (G0 (fun c3=>aj ?_) (fun c3=>?_))))
  ·simp only [nrm,xdn,reduceIte,Nat.reduceLT,Nat.reduceSub,Nat.reduceAdd,Int.toNat_natCast,aG] at c1
   exact bad 5 (by decide) (by unfold gw;rw [if_pos c1])
  case refine_2 | refine_3 =>
   simp only [nrm,xdn,reduceIte,Nat.reduceLT,Nat.reduceSub,Nat.reduceAdd,Int.toNat_natCast,aG,aN,aw] at *
   exact bad 5 (by decide) (by unfold gw;rw [if_neg c1,if_neg (by omega)])
  simp only [nrm,xdn,reduceIte,Nat.reduceLT,Nat.reduceSub,Nat.reduceAdd,Int.toNat_natCast,aG,aN,aw] at c1 c2 c3
  refine lv (by simp only [nrm,xdn,reduceIte,Nat.reduceLT,Nat.reduceSub,Nat.reduceAdd,aw];omega) (G0 (fun c4=>aj ?_) (fun c4=>G0 (fun c5=>aj ?_) (fun c5=>?_)))
  case refine_1 | refine_2 =>
   simp only [nrm,xdn,reduceIte,Nat.reduceLT,Nat.reduceSub,Nat.reduceAdd,Int.toNat_natCast,aG] at *
   exact bad 3 (by decide) (by unfold gw;rw [if_neg c1,if_pos (by omega),if_pos (by omega)])
  simp only [nrm,xdn,reduceIte,Nat.reduceLT,Nat.reduceSub,Nat.reduceAdd,Int.toNat_natCast,aG] at c4 c5
  refine G1 (by simp only [nrm,xdn,reduceIte,Nat.reduceLT,Nat.reduceSub,Nat.reduceAdd];omega) (aV ⟨⟨j + 1,?_,by omega,?_⟩,?_⟩)
  ·simp only [nrm,xdn,reduceIte,Nat.reduceLT,Nat.reduceSub,Nat.reduceAdd];rfl
  ·rw [ht,hs,if_neg (fun hx=>hx (by unfold gw;rw [if_neg c1,if_pos (by omega),if_neg (by omega)]))]
  ·simp only [nrm,xdn,reduceIte,Nat.reduceLT,Nat.reduceSub,Nat.reduceAdd];omega
 simp only [nrm,xdn,reduceIte,Nat.reduceLT,Nat.reduceSub,Nat.reduceAdd,aw] at hge
 have hH : cV m.slots.length m.heads.length m.heads m.locks=0:=by rw [ht,List.drop_of_length_le (by omega),List.drop_of_length_le (by omega)];rfl
 rw [hH,if_neg (fun h=>h rfl)]
 clear hge ht hj
 refine bO (fun ds=>∃ (seen : List Bool) (L : List Int) (i : Nat),ds=[.i i,F2 L]∧seen.length=m.slots.length∧i≤m.free.length∧bD m.slots m.free (List.replicate m.slots.length false)=bD m.slots (m.free.drop i) seen∧∀ a : Nat,a < m.slots.length→(seen.getD a false=true↔(a : Int)∈L)) (fun ds=>m.free.length - (ds.getD 0 .u).int.toNat)
  ⟨List.replicate m.slots.length false,[],0,rfl,by simp,by omega,rfl,fun a ha=>by simp [List.getD_eq_getElem?_getD,List.getElem?_replicate,ha]⟩ ?_
 rintro ds - ⟨seen,L,n,rfl,hn,hi,ht,hL⟩
 refine G0 (fun hlt=>?_) (fun hge=>?_)
 ·simp only [nrm,xdn,reduceIte,Nat.reduceLT,Nat.reduceSub,Nat.reduceAdd,aw] at hlt
  have hs:=uv (slots:=m.slots) (l:=m.free) (seen:=seen) (i:=n) (by omega)
  refine ag (by simp only [nrm,xdn,reduceIte,Nat.reduceLT,Nat.reduceSub,Nat.reduceAdd];omega) ?_
  have bad : ∀ e : Int,e≠0→bD m.slots (m.free.drop n) seen=(e,seen)→[CD.i e]=[CD.i (if (bD m.slots m.free (List.replicate m.slots.length false)).1≠0 then (bD m.slots m.free (List.replicate m.slots.length false)).1 else Hv m.slots (bD m.slots m.free (List.replicate m.slots.length false)).2)]:=fun e he hx=>by
   rw [ht,hx,if_pos he]
  refine G0 (fun c1=>aj ?_) (fun c1=>G0 (fun c2=>aj ?_) (fun c2=>?_))
  case refine_1 | refine_2 =>
   simp only [nrm,xdn,reduceIte,Nat.reduceLT,Nat.reduceSub,Nat.reduceAdd,Int.toNat_natCast,aG,aN] at *
   exact bad 5 (by decide) (by rw [hs,if_pos (by omega)])
  simp only [nrm,xdn,reduceIte,Nat.reduceLT,Nat.reduceSub,Nat.reduceAdd,Int.toNat_natCast,aG,aN] at c1 c2
  have hr:=hsl (m.slots.getD (m.free.getD n 0).toNat default) (by
   rw [List.getD_eq_getElem?_getD,List.getElem?_eq_getElem (by omega),Option.getD_some];exact List.getElem_mem _)
  have hr0:=hr.r0
  refine ag (by simp only [nrm,xdn,reduceIte,Nat.reduceLT,Nat.reduceSub,Nat.reduceAdd,Int.toNat_natCast,aG];omega) (ag (by simp only [nrm,xdn,reduceIte,Nat.reduceLT,Nat.reduceSub,Nat.reduceAdd,Int.toNat_natCast,aG,aN];omega) (G0 (fun c3=>aj ?_) (fun c3=>G0 (fun c4=>aj ?_) (fun c4=>?_))))
  ·simp only [nrm,xdn,reduceIte,Nat.reduceLT,Nat.reduceSub,Nat.reduceAdd,Int.toNat_natCast,aG,cX] at c3
   exact bad 5 (by decide) (by rw [hs,if_neg (by omega),if_pos (by omega)])
  ·simp only [nrm,xdn,reduceIte,Nat.reduceLT,Nat.reduceSub,Nat.reduceAdd,Int.toNat_natCast,aG,cX,CD.row,List.headD_cons,iK (show n < m.free.length by omega),Iz] at c3 c4
   exact bad 6 (by decide) (by rw [hs,if_neg (by omega),if_neg (by omega),if_pos ((hL _ (by omega)).2 (by rw [show (((m.free.getD n 0).toNat : Nat) : Int)=m.free.getD n 0 from by omega];exact c4))])
  simp only [nrm,xdn,reduceIte,Nat.reduceLT,Nat.reduceSub,Nat.reduceAdd,Int.toNat_natCast,aG,cX,CD.row,List.headD_cons,iK (show n < m.free.length by omega),Iz] at c3 c4
  refine G1 (by simp only [nrm,xdn,reduceIte,Nat.reduceLT,Nat.reduceSub,Nat.reduceAdd];omega) (aV ⟨⟨seen.set (m.free.getD n 0).toNat true,m.free.getD n 0 :: L,n + 1,?_,by simp [hn],by omega,?_,fun a ha=>?_⟩,?_⟩)
  ·simp only [nrm,xdn,reduceIte,Nat.reduceLT,Nat.reduceSub,Nat.reduceAdd,Int.toNat_natCast,CD.row,List.headD_cons,iK (show n < m.free.length by omega)]
   rfl
  ·rw [ht,hs,if_neg (by omega),if_neg (by omega),if_neg (fun h=>c4 (by have:=(hL _ (by omega)).1 h;rw [show (((m.free.getD n 0).toNat : Nat) : Int)=m.free.getD n 0 from by omega] at this;exact this))]
  ·rw [gT,List.mem_cons]
   by_cases e : (m.free.getD n 0).toNat=a
   ·rw [if_pos ⟨e,by omega⟩]
    exact ⟨fun _=>.inl (by omega),fun _=>rfl⟩
   ·rw [if_neg (fun h=>e h.1),hL a ha]
    exact ⟨.inr,fun h=>h.resolve_left (by omega)⟩
  ·simp only [nrm,xdn,reduceIte,Nat.reduceLT,Nat.reduceSub,Nat.reduceAdd];omega
 simp only [nrm,xdn,reduceIte,Nat.reduceLT,Nat.reduceSub,Nat.reduceAdd,aw] at hge
 have hF : bD m.slots m.free (List.replicate m.slots.length false)=(0,seen):=by rw [ht,List.drop_of_length_le (by omega)];rfl
 rw [hF]
 simp only [ne_eq,not_true_eq_false,if_false]
 clear hge ht hi
 refine bO (fun ds=>∃ i : Nat,ds=[.i i]∧i≤m.slots.length∧Hv m.slots seen=Hv (m.slots.drop i) (seen.drop i)) (fun ds=>m.slots.length - (ds.getD 0 .u).int.toNat) ⟨0,rfl,by omega,rfl⟩ ?_
 rintro ds - ⟨i,rfl,hi,ht⟩
 refine G0 (fun hlt=>?_) (fun hge=>?_)
 ·simp only [nrm,xdn,reduceIte,Nat.reduceLT,Nat.reduceSub,Nat.reduceAdd,aN] at hlt
  have hs:=v7 (l:=m.slots) (m:=seen) (i:=i) (by omega) (by omega)
  have hLi:=hL i (by omega)
  refine ag (by simp only [nrm,xdn,reduceIte,Nat.reduceLT,Nat.reduceSub,Nat.reduceAdd];omega) (G0 (fun c1=>G0 (fun c2=>aj ?_) (fun c2=>?_)) (fun c1=>?_))
  ·simp only [nrm,xdn,reduceIte,Nat.reduceLT,Nat.reduceSub,Nat.reduceAdd,Int.toNat_natCast,cX,CD.row,List.headD_cons,Iz,Bool.not_eq_true',decide_eq_false_iff_not] at c1 c2 ⊢
   rw [ht,hs,if_pos ⟨c1,by cases h : seen.getD i false with
    | false=>rfl
    | true=>exact absurd (hLi.1 h) c2⟩]
  ·simp only [nrm,xdn,reduceIte,Nat.reduceLT,Nat.reduceSub,Nat.reduceAdd,Int.toNat_natCast,cX,CD.row,List.headD_cons,Iz,Bool.not_eq_false',decide_eq_true_eq] at c1 c2
   refine G1 (by simp only [nrm,xdn,reduceIte,Nat.reduceLT,Nat.reduceSub,Nat.reduceAdd];omega) (aV ⟨⟨i + 1,?_,by omega,?_⟩,?_⟩)
   ·simp only [nrm,xdn,reduceIte,Nat.reduceLT,Nat.reduceSub,Nat.reduceAdd];rfl
   ·rw [ht,hs,if_neg (fun h=>by have:=hLi.2 c2;rw [h.2] at this;cases this)]
   ·simp only [nrm,xdn,reduceIte,Nat.reduceLT,Nat.reduceSub,Nat.reduceAdd];omega
  ·simp only [nrm,xdn,reduceIte,Nat.reduceLT,Nat.reduceSub,Nat.reduceAdd,Int.toNat_natCast,cX] at c1
   refine G1 (by simp only [nrm,xdn,reduceIte,Nat.reduceLT,Nat.reduceSub,Nat.reduceAdd];omega) (aV ⟨⟨i + 1,?_,by omega,?_⟩,?_⟩)
   ·simp only [nrm,xdn,reduceIte,Nat.reduceLT,Nat.reduceSub,Nat.reduceAdd];rfl
   ·rw [ht,hs,if_neg (fun h=>c1 h.1)]
   ·simp only [nrm,xdn,reduceIte,Nat.reduceLT,Nat.reduceSub,Nat.reduceAdd];omega
 simp only [nrm,xdn,reduceIte,Nat.reduceLT,Nat.reduceSub,Nat.reduceAdd,aN] at hge
 refine aj ?_
 rw [ht,List.drop_of_length_le (by omega)]
 rfl
end Go.Proofs.Ytpmamacjepcdmaa
