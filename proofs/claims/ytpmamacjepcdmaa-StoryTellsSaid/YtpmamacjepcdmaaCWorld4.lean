import Derived.Test.YtpmamacjepcdmaaCWorldChk
import Derived.Test.YtpmamacjepcdmaaCLock
import Derived.Test.YtpmamacjepcdmaaCSweep
import Derived.Test.YtpmamacjepcdmaaCWorld
namespace Go.Proofs.Ytpmamacjepcdmaa
open Go Go.Sy Go.RowKit
set_option linter.unusedSimpArgs false
set_option linter.unusedVariables false
def Wrd.gone (w : Wrd) (x : Int) (r : Frm × Mem) : Wrd:=⟨r.2,w.ts.modify x.toNat fun t=>{ t with busy:=!r.1.done,f:=r.1}⟩
def cN (w : Wrd) (x : Int) : Wrd × Int :=
 if (tsk w x).busy=false then (w,8)
 else if (tsk w x).f.c.kind=1 then
  (if (ar w.m (tsk w x).f).1.done=true∧(ar w.m (tsk w x).f).1.e=0 then
   (⟨(ar w.m (tsk w x).f).2,w.ts.modify x.toNat fun t=>{ t with busy:=!(ar w.m (tsk w x).f).1.done,f:=(ar w.m (tsk w x).f).1,held:=(tsk w x).held ++ [(ar w.m (tsk w x).f).1.slot]}⟩,0)
  else (w.gone x (ar w.m (tsk w x).f),0))
 else if (tsk w x).f.c.kind=2 then (w.gone x (G3 w.m (tsk w x).f x),0)
 else if (tsk w x).f.c.kind=3 then (w.gone x (aL w.m (tsk w x).f x),0)
 else if (tsk w x).f.c.kind=4∨(tsk w x).f.c.kind=5 then (w.gone x (aB w.m (tsk w x).f x),0)
 else if 0≤indexOf (tsk w x).f.c.slot (tsk w x).held 0 then
  (⟨put w.m (tsk w x).f.c.slot,w.ts.modify x.toNat fun t=>{ t with busy:=!(ay (tsk w x).f 0).done,f:=ay (tsk w x).f 0,held:=(tsk w x).held.take (indexOf (tsk w x).f.c.slot (tsk w x).held 0).toNat ++ (tsk w x).held.drop ((indexOf (tsk w x).f.c.slot (tsk w x).held 0) + 1).toNat}⟩,0)
 else (w.gone x (ay (tsk w x).f 0,w.m),0)
theorem tx {α : Type} [DecidableEq α] (x : α) : ∀ (l : List α) (i : Nat),indexOf x l i < i + l.length∨indexOf x l i=-1
 | [],i=>.inr rfl
 | a :: l,i=>by
  simp only [indexOf,List.length_cons]
  split
  ·left;omega
  ·rcases tx x l (i + 1) with h | h
   ·left;omega
   ·exact .inr h
theorem put_A2 {ts : List Tsk} {k : Nat} {t : Tsk} (ht : ts.getD k default=t) (hto : t.own=true) (b : Bool) (f : Frm) : CD.l ((az ts).rows.modify k fun r=>((((((((((((((((r.set 15 (.o (af t.held).rows)).set 1 (.i f.c.kind)).set 2 (.i f.c.k.a)).set 3 (.i f.c.k.b)).set 4 (.i f.c.time)).set 5 (.i f.c.bucket)).set 6 (.i f.c.slot)).set 7 (.i f.pc)).set 8 (.i f.cur)).set 9 (.i f.prev)).set 10 (.i f.slot)).set 11 (.i f.n)).set 12 (bS f.keys)).set 13 (.b f.done)).set 14 (.i f.e)).set 0 (.b b)))=az (ts.modify k fun t=>{ t with busy:=b,f:=f}) :=
 gH (by rw [ht,gZ hto];simp only [Tsk.iv,Tsk.hd,hto,if_true];rfl)
def s208 : Sig:=⟨[.ptr [.own 52 kS,.own 3 kI,.own 3 kI,.own 3 kI,.int .i64,.own 129 kTo],.one (.int .i64)],[.one (.int .i64)]⟩
def d208 : DC:=⟨s208,fun l=>0≤(l.getD 6 .u).int∧(l.getD 6 .u).int < (Wrd.of l).ts.length∧(∀ t∈(Wrd.of l).ts,t.own=true∧t.held.length≤10000)∧aZ (Wrd.of l).m∧((tsk (Wrd.of l) (l.getD 6 .u).int).busy=true→bV (Wrd.of l).m (tsk (Wrd.of l) (l.getD 6 .u).int).f),fun l=>(cN (Wrd.of l) (l.getD 6 .u).int).1.cds ++ [.i (cN (Wrd.of l) (l.getD 6 .u).int).2]⟩
def l208 : List (Nat × Ct):=[(101,d101.ct),(107,d107.ct),(104,d104.ct),(110,d110.ct),(179,d179.ct),(167,d167.ct),(215,d215.ct),(44,d44.ct)]
def z208 : Cx:={ T:=ttA,C:=sigs l208,F:=[],hints:=[],sig:=s208}
def t208 : Tree :=
 (.need (.le (.int 0) (.var 6))
 (.need (.lt (.var 6) (.len (.var 5)))
 (.ite (.not (.cell (.var 5) (.var 6) 0))
 (.need (.clean (.var 5) 15)
 (.ret [.var 0,.var 1,.var 2,.var 3,.var 4,.var 5,.int 8]))
 (.ite (.eq (.cell (.var 5) (.var 6) 1) (.int 1))
 (.call 101 [.var 0,.var 1,.var 2,.var 3,.var 4,.cell (.var 5) (.var 6) 1,.cell (.var 5) (.var 6) 2,.cell (.var 5) (.var 6) 3,.cell (.var 5) (.var 6) 4,.cell (.var 5) (.var 6) 5,.cell (.var 5) (.var 6) 6,.cell (.var 5) (.var 6) 7,.cell (.var 5) (.var 6) 8,.cell (.var 5) (.var 6) 9,.cell (.var 5) (.var 6) 10,.cell (.var 5) (.var 6) 11,.cell (.var 5) (.var 6) 12,.cell (.var 5) (.var 6) 13,.cell (.var 5) (.var 6) 14] 7
 (.ite (.var 24)
 (.ite (.eq (.var 25) (.int 0))
 (.need (.isO (.cell (.var 5) (.var 6) 15))
 (.need (.le (.add (.len (.shut (.cell (.var 5) (.var 6) 15))) (.int 1)) (.int 17592186044416))
 (.need (.clean (.set (.set (.set (.set (.set (.set (.set (.set (.set (.set (.set (.set (.set (.set (.set (.set (.var 5) (.var 6) 1 (.var 12)) (.var 6) 2 (.var 13)) (.var 6) 3 (.var 14)) (.var 6) 4 (.var 15)) (.var 6) 5 (.var 16)) (.var 6) 6 (.var 17)) (.var 6) 7 (.var 18)) (.var 6) 8 (.var 19)) (.var 6) 9 (.var 20)) (.var 6) 10 (.var 21)) (.var 6) 11 (.var 22)) (.var 6) 12 (.var 23)) (.var 6) 13 (.var 24)) (.var 6) 14 (.var 25)) (.var 6) 15 (.own (.app (.shut (.cell (.var 5) (.var 6) 15)) (.cons (.var 21) .row0)))) (.var 6) 0 (.not (.var 24))) 15)
 (.ret [.var 7,.var 8,.var 9,.var 10,.var 11,.set (.set (.set (.set (.set (.set (.set (.set (.set (.set (.set (.set (.set (.set (.set (.set (.var 5) (.var 6) 1 (.var 12)) (.var 6) 2 (.var 13)) (.var 6) 3 (.var 14)) (.var 6) 4 (.var 15)) (.var 6) 5 (.var 16)) (.var 6) 6 (.var 17)) (.var 6) 7 (.var 18)) (.var 6) 8 (.var 19)) (.var 6) 9 (.var 20)) (.var 6) 10 (.var 21)) (.var 6) 11 (.var 22)) (.var 6) 12 (.var 23)) (.var 6) 13 (.var 24)) (.var 6) 14 (.var 25)) (.var 6) 15 (.own (.app (.shut (.cell (.var 5) (.var 6) 15)) (.cons (.var 21) .row0)))) (.var 6) 0 (.not (.var 24)),.int 0]))))
 (.need (.clean (.set (.set (.set (.set (.set (.set (.set (.set (.set (.set (.set (.set (.set (.set (.set (.var 5) (.var 6) 1 (.var 12)) (.var 6) 2 (.var 13)) (.var 6) 3 (.var 14)) (.var 6) 4 (.var 15)) (.var 6) 5 (.var 16)) (.var 6) 6 (.var 17)) (.var 6) 7 (.var 18)) (.var 6) 8 (.var 19)) (.var 6) 9 (.var 20)) (.var 6) 10 (.var 21)) (.var 6) 11 (.var 22)) (.var 6) 12 (.var 23)) (.var 6) 13 (.var 24)) (.var 6) 14 (.var 25)) (.var 6) 0 (.not (.var 24))) 15)
 (.ret [.var 7,.var 8,.var 9,.var 10,.var 11,.set (.set (.set (.set (.set (.set (.set (.set (.set (.set (.set (.set (.set (.set (.set (.var 5) (.var 6) 1 (.var 12)) (.var 6) 2 (.var 13)) (.var 6) 3 (.var 14)) (.var 6) 4 (.var 15)) (.var 6) 5 (.var 16)) (.var 6) 6 (.var 17)) (.var 6) 7 (.var 18)) (.var 6) 8 (.var 19)) (.var 6) 9 (.var 20)) (.var 6) 10 (.var 21)) (.var 6) 11 (.var 22)) (.var 6) 12 (.var 23)) (.var 6) 13 (.var 24)) (.var 6) 14 (.var 25)) (.var 6) 0 (.not (.var 24)),.int 0])))
 (.need (.clean (.set (.set (.set (.set (.set (.set (.set (.set (.set (.set (.set (.set (.set (.set (.set (.var 5) (.var 6) 1 (.var 12)) (.var 6) 2 (.var 13)) (.var 6) 3 (.var 14)) (.var 6) 4 (.var 15)) (.var 6) 5 (.var 16)) (.var 6) 6 (.var 17)) (.var 6) 7 (.var 18)) (.var 6) 8 (.var 19)) (.var 6) 9 (.var 20)) (.var 6) 10 (.var 21)) (.var 6) 11 (.var 22)) (.var 6) 12 (.var 23)) (.var 6) 13 (.var 24)) (.var 6) 14 (.var 25)) (.var 6) 0 (.not (.var 24))) 15)
 (.ret [.var 7,.var 8,.var 9,.var 10,.var 11,.set (.set (.set (.set (.set (.set (.set (.set (.set (.set (.set (.set (.set (.set (.set (.var 5) (.var 6) 1 (.var 12)) (.var 6) 2 (.var 13)) (.var 6) 3 (.var 14)) (.var 6) 4 (.var 15)) (.var 6) 5 (.var 16)) (.var 6) 6 (.var 17)) (.var 6) 7 (.var 18)) (.var 6) 8 (.var 19)) (.var 6) 9 (.var 20)) (.var 6) 10 (.var 21)) (.var 6) 11 (.var 22)) (.var 6) 12 (.var 23)) (.var 6) 13 (.var 24)) (.var 6) 14 (.var 25)) (.var 6) 0 (.not (.var 24)),.int 0]))))
 (.ite (.eq (.cell (.var 5) (.var 6) 1) (.int 2))
 (.call 107 [.var 0,.var 1,.var 2,.var 3,.var 4,.cell (.var 5) (.var 6) 1,.cell (.var 5) (.var 6) 2,.cell (.var 5) (.var 6) 3,.cell (.var 5) (.var 6) 4,.cell (.var 5) (.var 6) 5,.cell (.var 5) (.var 6) 6,.cell (.var 5) (.var 6) 7,.cell (.var 5) (.var 6) 8,.cell (.var 5) (.var 6) 9,.cell (.var 5) (.var 6) 10,.cell (.var 5) (.var 6) 11,.cell (.var 5) (.var 6) 12,.cell (.var 5) (.var 6) 13,.cell (.var 5) (.var 6) 14,.var 6] 7
 (.need (.clean (.set (.set (.set (.set (.set (.set (.set (.set (.set (.set (.set (.set (.set (.set (.set (.var 5) (.var 6) 1 (.var 12)) (.var 6) 2 (.var 13)) (.var 6) 3 (.var 14)) (.var 6) 4 (.var 15)) (.var 6) 5 (.var 16)) (.var 6) 6 (.var 17)) (.var 6) 7 (.var 18)) (.var 6) 8 (.var 19)) (.var 6) 9 (.var 20)) (.var 6) 10 (.var 21)) (.var 6) 11 (.var 22)) (.var 6) 12 (.var 23)) (.var 6) 13 (.var 24)) (.var 6) 14 (.var 25)) (.var 6) 0 (.not (.var 24))) 15)
 (.ret [.var 7,.var 8,.var 9,.var 10,.var 11,.set (.set (.set (.set (.set (.set (.set (.set (.set (.set (.set (.set (.set (.set (.set (.var 5) (.var 6) 1 (.var 12)) (.var 6) 2 (.var 13)) (.var 6) 3 (.var 14)) (.var 6) 4 (.var 15)) (.var 6) 5 (.var 16)) (.var 6) 6 (.var 17)) (.var 6) 7 (.var 18)) (.var 6) 8 (.var 19)) (.var 6) 9 (.var 20)) (.var 6) 10 (.var 21)) (.var 6) 11 (.var 22)) (.var 6) 12 (.var 23)) (.var 6) 13 (.var 24)) (.var 6) 14 (.var 25)) (.var 6) 0 (.not (.var 24)),.int 0])))
 (.ite (.eq (.cell (.var 5) (.var 6) 1) (.int 3))
 (.call 104 [.var 0,.var 1,.var 2,.var 3,.var 4,.cell (.var 5) (.var 6) 1,.cell (.var 5) (.var 6) 2,.cell (.var 5) (.var 6) 3,.cell (.var 5) (.var 6) 4,.cell (.var 5) (.var 6) 5,.cell (.var 5) (.var 6) 6,.cell (.var 5) (.var 6) 7,.cell (.var 5) (.var 6) 8,.cell (.var 5) (.var 6) 9,.cell (.var 5) (.var 6) 10,.cell (.var 5) (.var 6) 11,.cell (.var 5) (.var 6) 12,.cell (.var 5) (.var 6) 13,.cell (.var 5) (.var 6) 14,.var 6] 7
 (.need (.clean (.set (.set (.set (.set (.set (.set (.set (.set (.set (.set (.set (.set (.set (.set (.set (.var 5) (.var 6) 1 (.var 12)) (.var 6) 2 (.var 13)) (.var 6) 3 (.var 14)) (.var 6) 4 (.var 15)) (.var 6) 5 (.var 16)) (.var 6) 6 (.var 17)) (.var 6) 7 (.var 18)) (.var 6) 8 (.var 19)) (.var 6) 9 (.var 20)) (.var 6) 10 (.var 21)) (.var 6) 11 (.var 22)) (.var 6) 12 (.var 23)) (.var 6) 13 (.var 24)) (.var 6) 14 (.var 25)) (.var 6) 0 (.not (.var 24))) 15)
 (.ret [.var 7,.var 8,.var 9,.var 10,.var 11,.set (.set (.set (.set (.set (.set (.set (.set (.set (.set (.set (.set (.set (.set (.set (.var 5) (.var 6) 1 (.var 12)) (.var 6) 2 (.var 13)) (.var 6) 3 (.var 14)) (.var 6) 4 (.var 15)) (.var 6) 5 (.var 16)) (.var 6) 6 (.var 17)) (.var 6) 7 (.var 18)) (.var 6) 8 (.var 19)) (.var 6) 9 (.var 20)) (.var 6) 10 (.var 21)) (.var 6) 11 (.var 22)) (.var 6) 12 (.var 23)) (.var 6) 13 (.var 24)) (.var 6) 14 (.var 25)) (.var 6) 0 (.not (.var 24)),.int 0])))
 (.ite (.eq (.cell (.var 5) (.var 6) 1) (.int 4))
 (.call 110 [.var 0,.var 1,.var 2,.var 3,.var 4,.cell (.var 5) (.var 6) 1,.cell (.var 5) (.var 6) 2,.cell (.var 5) (.var 6) 3,.cell (.var 5) (.var 6) 4,.cell (.var 5) (.var 6) 5,.cell (.var 5) (.var 6) 6,.cell (.var 5) (.var 6) 7,.cell (.var 5) (.var 6) 8,.cell (.var 5) (.var 6) 9,.cell (.var 5) (.var 6) 10,.cell (.var 5) (.var 6) 11,.cell (.var 5) (.var 6) 12,.cell (.var 5) (.var 6) 13,.cell (.var 5) (.var 6) 14,.var 6] 7
 (.need (.clean (.set (.set (.set (.set (.set (.set (.set (.set (.set (.set (.set (.set (.set (.set (.set (.var 5) (.var 6) 1 (.var 12)) (.var 6) 2 (.var 13)) (.var 6) 3 (.var 14)) (.var 6) 4 (.var 15)) (.var 6) 5 (.var 16)) (.var 6) 6 (.var 17)) (.var 6) 7 (.var 18)) (.var 6) 8 (.var 19)) (.var 6) 9 (.var 20)) (.var 6) 10 (.var 21)) (.var 6) 11 (.var 22)) (.var 6) 12 (.var 23)) (.var 6) 13 (.var 24)) (.var 6) 14 (.var 25)) (.var 6) 0 (.not (.var 24))) 15)
 (.ret [.var 7,.var 8,.var 9,.var 10,.var 11,.set (.set (.set (.set (.set (.set (.set (.set (.set (.set (.set (.set (.set (.set (.set (.var 5) (.var 6) 1 (.var 12)) (.var 6) 2 (.var 13)) (.var 6) 3 (.var 14)) (.var 6) 4 (.var 15)) (.var 6) 5 (.var 16)) (.var 6) 6 (.var 17)) (.var 6) 7 (.var 18)) (.var 6) 8 (.var 19)) (.var 6) 9 (.var 20)) (.var 6) 10 (.var 21)) (.var 6) 11 (.var 22)) (.var 6) 12 (.var 23)) (.var 6) 13 (.var 24)) (.var 6) 14 (.var 25)) (.var 6) 0 (.not (.var 24)),.int 0])))
 (.ite (.eq (.cell (.var 5) (.var 6) 1) (.int 5))
 (.call 110 [.var 0,.var 1,.var 2,.var 3,.var 4,.cell (.var 5) (.var 6) 1,.cell (.var 5) (.var 6) 2,.cell (.var 5) (.var 6) 3,.cell (.var 5) (.var 6) 4,.cell (.var 5) (.var 6) 5,.cell (.var 5) (.var 6) 6,.cell (.var 5) (.var 6) 7,.cell (.var 5) (.var 6) 8,.cell (.var 5) (.var 6) 9,.cell (.var 5) (.var 6) 10,.cell (.var 5) (.var 6) 11,.cell (.var 5) (.var 6) 12,.cell (.var 5) (.var 6) 13,.cell (.var 5) (.var 6) 14,.var 6] 7
 (.need (.clean (.set (.set (.set (.set (.set (.set (.set (.set (.set (.set (.set (.set (.set (.set (.set (.var 5) (.var 6) 1 (.var 12)) (.var 6) 2 (.var 13)) (.var 6) 3 (.var 14)) (.var 6) 4 (.var 15)) (.var 6) 5 (.var 16)) (.var 6) 6 (.var 17)) (.var 6) 7 (.var 18)) (.var 6) 8 (.var 19)) (.var 6) 9 (.var 20)) (.var 6) 10 (.var 21)) (.var 6) 11 (.var 22)) (.var 6) 12 (.var 23)) (.var 6) 13 (.var 24)) (.var 6) 14 (.var 25)) (.var 6) 0 (.not (.var 24))) 15)
 (.ret [.var 7,.var 8,.var 9,.var 10,.var 11,.set (.set (.set (.set (.set (.set (.set (.set (.set (.set (.set (.set (.set (.set (.set (.var 5) (.var 6) 1 (.var 12)) (.var 6) 2 (.var 13)) (.var 6) 3 (.var 14)) (.var 6) 4 (.var 15)) (.var 6) 5 (.var 16)) (.var 6) 6 (.var 17)) (.var 6) 7 (.var 18)) (.var 6) 8 (.var 19)) (.var 6) 9 (.var 20)) (.var 6) 10 (.var 21)) (.var 6) 11 (.var 22)) (.var 6) 12 (.var 23)) (.var 6) 13 (.var 24)) (.var 6) 14 (.var 25)) (.var 6) 0 (.not (.var 24)),.int 0])))
 (.ite (.eq (.cell (.var 5) (.var 6) 1) (.int 6))
 (.need (.isO (.cell (.var 5) (.var 6) 15))
 (.call 179 [.shut (.cell (.var 5) (.var 6) 15),.cell (.var 5) (.var 6) 6] 7
 (.ite (.le (.int 0) (.var 7))
 (.call 167 [.var 0,.var 1,.var 2,.var 3,.var 4,.cell (.var 5) (.var 6) 6] 8
 (.need (.fit (.add (.var 7) (.int 1)))
 (.call 215 [.shut (.cell (.var 5) (.var 6) 15),.var 7,.add (.var 7) (.int 1)] 13
 (.call 44 [.cell (.var 5) (.var 6) 1,.cell (.var 5) (.var 6) 2,.cell (.var 5) (.var 6) 3,.cell (.var 5) (.var 6) 4,.cell (.var 5) (.var 6) 5,.cell (.var 5) (.var 6) 6,.cell (.var 5) (.var 6) 7,.cell (.var 5) (.var 6) 8,.cell (.var 5) (.var 6) 9,.cell (.var 5) (.var 6) 10,.cell (.var 5) (.var 6) 11,.cell (.var 5) (.var 6) 12,.cell (.var 5) (.var 6) 13,.cell (.var 5) (.var 6) 14,.int 0] 14
 (.need (.clean (.set (.set (.set (.set (.set (.set (.set (.set (.set (.set (.set (.set (.set (.set (.set (.set (.var 5) (.var 6) 15 (.own (.var 13))) (.var 6) 1 (.var 14)) (.var 6) 2 (.var 15)) (.var 6) 3 (.var 16)) (.var 6) 4 (.var 17)) (.var 6) 5 (.var 18)) (.var 6) 6 (.var 19)) (.var 6) 7 (.var 20)) (.var 6) 8 (.var 21)) (.var 6) 9 (.var 22)) (.var 6) 10 (.var 23)) (.var 6) 11 (.var 24)) (.var 6) 12 (.var 25)) (.var 6) 13 (.var 26)) (.var 6) 14 (.var 27)) (.var 6) 0 (.not (.var 26))) 15)
 (.ret [.var 8,.var 9,.var 10,.var 11,.var 12,.set (.set (.set (.set (.set (.set (.set (.set (.set (.set (.set (.set (.set (.set (.set (.set (.var 5) (.var 6) 15 (.own (.var 13))) (.var 6) 1 (.var 14)) (.var 6) 2 (.var 15)) (.var 6) 3 (.var 16)) (.var 6) 4 (.var 17)) (.var 6) 5 (.var 18)) (.var 6) 6 (.var 19)) (.var 6) 7 (.var 20)) (.var 6) 8 (.var 21)) (.var 6) 9 (.var 22)) (.var 6) 10 (.var 23)) (.var 6) 11 (.var 24)) (.var 6) 12 (.var 25)) (.var 6) 13 (.var 26)) (.var 6) 14 (.var 27)) (.var 6) 0 (.not (.var 26)),.int 0]))))))
 (.call 44 [.cell (.var 5) (.var 6) 1,.cell (.var 5) (.var 6) 2,.cell (.var 5) (.var 6) 3,.cell (.var 5) (.var 6) 4,.cell (.var 5) (.var 6) 5,.cell (.var 5) (.var 6) 6,.cell (.var 5) (.var 6) 7,.cell (.var 5) (.var 6) 8,.cell (.var 5) (.var 6) 9,.cell (.var 5) (.var 6) 10,.cell (.var 5) (.var 6) 11,.cell (.var 5) (.var 6) 12,.cell (.var 5) (.var 6) 13,.cell (.var 5) (.var 6) 14,.int 0] 8
 (.need (.clean (.set (.set (.set (.set (.set (.set (.set (.set (.set (.set (.set (.set (.set (.set (.set (.set (.var 5) (.var 6) 15 (.own (.shut (.cell (.var 5) (.var 6) 15)))) (.var 6) 1 (.var 8)) (.var 6) 2 (.var 9)) (.var 6) 3 (.var 10)) (.var 6) 4 (.var 11)) (.var 6) 5 (.var 12)) (.var 6) 6 (.var 13)) (.var 6) 7 (.var 14)) (.var 6) 8 (.var 15)) (.var 6) 9 (.var 16)) (.var 6) 10 (.var 17)) (.var 6) 11 (.var 18)) (.var 6) 12 (.var 19)) (.var 6) 13 (.var 20)) (.var 6) 14 (.var 21)) (.var 6) 0 (.not (.var 20))) 15)
 (.ret [.var 0,.var 1,.var 2,.var 3,.var 4,.set (.set (.set (.set (.set (.set (.set (.set (.set (.set (.set (.set (.set (.set (.set (.set (.var 5) (.var 6) 15 (.own (.shut (.cell (.var 5) (.var 6) 15)))) (.var 6) 1 (.var 8)) (.var 6) 2 (.var 9)) (.var 6) 3 (.var 10)) (.var 6) 4 (.var 11)) (.var 6) 5 (.var 12)) (.var 6) 6 (.var 13)) (.var 6) 7 (.var 14)) (.var 6) 8 (.var 15)) (.var 6) 9 (.var 16)) (.var 6) 10 (.var 17)) (.var 6) 11 (.var 18)) (.var 6) 12 (.var 19)) (.var 6) 13 (.var 20)) (.var 6) 14 (.var 21)) (.var 6) 0 (.not (.var 20)),.int 0]))))))
 (.need (.clean (.set (.var 5) (.var 6) 0 (.not (.cell (.var 5) (.var 6) 13))) 15)
 (.ret [.var 0,.var 1,.var 2,.var 3,.var 4,.set (.var 5) (.var 6) 0 (.not (.cell (.var 5) (.var 6) 13)),.int 0])))))))))))
theorem run208 : run z208 6000 [.code (Try.f208.body.getD .skip),.fin (bt z208 Try.f208.results.toList 50)] { fn:=208,tmps:=z208.sig.aM ++ List.replicate (Try.f208.ntmps - z208.sig.aM.length) (.v (.one .undef)),stk:=[],h:=z208.sig.h0,nx:=z208.sig.ins.length,known:=[]}=t208:=by kernel_rfl
set_option maxHeartbeats 4000000 in
theorem ok208 : cB Try.prog 208 d208.ct:=by
 refine aD (d:=d208) (Z:=z208) (Γ:=gam l208) (fn:=Try.f208) (c:=Try.f208.body.getD .skip) (bg tok mixed (all_cons ok101 (all_cons ok107 (all_cons ok104 (all_cons ok110 (all_cons ok179 (all_cons ok167 (all_cons ok215 (all_cons ok44 all_nil)))))))) bh) Try.func208 (by kernel_rfl) (by kernel_rfl) rfl run208 fun E hk hp=>?_
 obtain ⟨hk0,hk1,hk2,hk3,hk4,hk5,hk6,_⟩:=hk
 obtain ⟨m,e0,e1,e2,e3,e4,b0,b1,b2,b3⟩:=cv (d0:=E 0) (d1:=E 1) (d2:=E 2) (d3:=E 3) (d4:=E 4) hk0 hk1 hk2 hk3 hk4
 obtain ⟨ts,e5,hts,b5⟩:=qf (d:=E 5) hk5
 have b5 : ts.length * 160≤140737488355328:=b5
 obtain ⟨x,e6⟩:=ok_int (d:=E 6) hk6
 have el : aH E d208.sig.ins.length=[au m.slots,af m.heads,af m.free,af m.locks,.i m.now,az ts,.i x]:=by
  show [E 0,E 1,E 2,E 3,E 4,E 5,E 6]=_
  rw [e0,e1,e2,e3,e4,e5,e6]
 rw [el] at hp
 rw [el]
 rw [Env.bJ el]
 clear el e0 e1 e2 e3 e4 e5 e6
 simp only [d208,fX,List.getD_cons_zero,List.getD_cons_succ,CD.aR,aA] at hp ⊢
 obtain ⟨p0,p1,p2,hm,hf⟩:=hp
 obtain ⟨k,rfl⟩ : ∃ k : Nat,x=k:=⟨x.toNat,by omega⟩
 have hk : k < ts.length:=by omega
 obtain ⟨t,ht⟩ : ∃ t,ts.getD k default=t:=⟨_,rfl⟩
 have hto : t.own=true:=(p2 _ (ht ▸ fc hk)).1
 have hfit : t.held.length≤10000:=(p2 _ (ht ▸ fc hk)).2
 have htt : tsk ⟨m,ts⟩ k=t:=by unfold tsk;rw [Int.toNat_natCast];exact ht
 rw [htt] at hf
 have e0 : ((az ts).rows.getD k []).getD 0 .u=.b t.busy:=by rw [cO 0 hk,ht];rfl
 have e1 : ((az ts).rows.getD k []).getD 1 .u=.i t.f.c.kind:=by rw [cO 1 hk,ht];rfl
 have e2 : ((az ts).rows.getD k []).getD 2 .u=.i t.f.c.k.a:=by rw [cO 2 hk,ht];rfl
 have e3 : ((az ts).rows.getD k []).getD 3 .u=.i t.f.c.k.b:=by rw [cO 3 hk,ht];rfl
 have e4 : ((az ts).rows.getD k []).getD 4 .u=.i t.f.c.time:=by rw [cO 4 hk,ht];rfl
 have e5 : ((az ts).rows.getD k []).getD 5 .u=.i t.f.c.bucket:=by rw [cO 5 hk,ht];rfl
 have e6 : ((az ts).rows.getD k []).getD 6 .u=.i t.f.c.slot:=by rw [cO 6 hk,ht];rfl
 have e7 : ((az ts).rows.getD k []).getD 7 .u=.i t.f.pc:=by rw [cO 7 hk,ht];rfl
 have e8 : ((az ts).rows.getD k []).getD 8 .u=.i t.f.cur:=by rw [cO 8 hk,ht];rfl
 have e9 : ((az ts).rows.getD k []).getD 9 .u=.i t.f.prev:=by rw [cO 9 hk,ht];rfl
 have e10 : ((az ts).rows.getD k []).getD 10 .u=.i t.f.slot:=by rw [cO 10 hk,ht];rfl
 have e11 : ((az ts).rows.getD k []).getD 11 .u=.i t.f.n:=by rw [cO 11 hk,ht];rfl
 have e12 : ((az ts).rows.getD k []).getD 12 .u=bS t.f.keys:=by rw [cO 12 hk,ht];rfl
 have e13 : ((az ts).rows.getD k []).getD 13 .u=.b t.f.done:=by rw [cO 13 hk,ht];rfl
 have e14 : ((az ts).rows.getD k []).getD 14 .u=.i t.f.e:=by rw [cO 14 hk,ht];rfl
 have e15 : ((az ts).rows.getD k []).getD 15 .u=o8 t.held:=by rw [cO 15 hk,ht,gZ hto];rfl
 have eo : (o8 t.held).isO=true:=rfl
 have es : (o8 t.held).shut=af t.held:=rfl
 unfold cN
 rw [htt]
 unfold t208
 refine ag (by simp only [nrm,xdn,reduceIte,Nat.reduceLT,Nat.reduceSub,Nat.reduceAdd];omega) (ag (by simp only [nrm,xdn,reduceIte,Nat.reduceLT,Nat.reduceSub,Nat.reduceAdd,eK];omega) (G0 (fun h=>?_) (fun h=>?_)))
 ·simp only [nrm,xdn,reduceIte,Nat.reduceLT,Nat.reduceSub,Nat.reduceAdd,Int.toNat_natCast,e0,Bool.not_eq_true'] at h
  rw [if_pos h]
  refine ag (by simp only [nrm,xdn,reduceIte,Nat.reduceLT,Nat.reduceSub,Nat.reduceAdd];exact aI ts) (aj ?_)
  simp only [nrm,xdn,reduceIte,Nat.reduceLT,Nat.reduceSub,Nat.reduceAdd,Wrd.cds,Mem.cds,lca]
 simp only [nrm,xdn,reduceIte,Nat.reduceLT,Nat.reduceSub,Nat.reduceAdd,Int.toNat_natCast,e0,Bool.not_eq_false'] at h
 rw [if_neg (by rw [h];exact fun x=>Bool.noConfusion x)]
 have hf:=hf h
 refine G0 (fun h1=>?_) (fun h1=>?_)
 ·simp only [nrm,xdn,reduceIte,Nat.reduceLT,Nat.reduceSub,Nat.reduceAdd,Int.toNat_natCast,e1] at h1
  rw [if_pos h1]
  refine ai d101 ((ar m t.f).2.cds ++ (ar m t.f).1.cds) rfl (by simp only [nrm,xdn,reduceIte,Nat.reduceLT,Nat.reduceSub,Nat.reduceAdd,Int.toNat_natCast,e1,e2,e3,e4,e5,e6,e7,e8,e9,e10,e11,e12,e13,e14];exact pi101 hm hf h1) (by simp only [nrm,xdn,reduceIte,Nat.reduceLT,Nat.reduceSub,Nat.reduceAdd,Int.toNat_natCast,e1,e2,e3,e4,e5,e6,e7,e8,e9,e10,e11,e12,e13,e14,fn101]) ?_
  generalize ar m t.f=r
  have hB:=Jo ht hto (!r.1.done) r.1
  refine G0 (fun h2=>?_) (fun h2=>?_)
  ·simp only [nrm,xdn,reduceIte,Nat.reduceLT,Nat.reduceSub,Nat.reduceAdd,Frm.cds,Mem.cds,lca] at h2
   refine G0 (fun h3=>?_) (fun h3=>?_)
   ·simp only [nrm,xdn,reduceIte,Nat.reduceLT,Nat.reduceSub,Nat.reduceAdd,Frm.cds,Mem.cds,lca] at h3
    rw [if_pos ⟨h2,h3⟩]
    have hC:=put_C ht hto (!r.1.done) r.1 (t.held ++ [r.1.slot])
    have ha : (af t.held).rows ++ [[.i r.1.slot]]=(af (t.held ++ [r.1.slot])).rows:=by simp [af]
    refine ag (by simp only [nrm,xdn,reduceIte,Nat.reduceLT,Nat.reduceSub,Nat.reduceAdd,Int.toNat_natCast,e15,eo]) (ag (by simp only [nrm,xdn,reduceIte,Nat.reduceLT,Nat.reduceSub,Nat.reduceAdd,Int.toNat_natCast,e15,es,aw];omega) (ag ?_ (aj ?_)))
    ·simp only [nrm,xdn,reduceIte,Nat.reduceLT,Nat.reduceSub,Nat.reduceAdd,Int.toNat_natCast,e15,es,CD.row,CD.ax,aC,Frm.cds,Mem.cds,lca,List.headD_cons,ha]
     exact cls hC
    ·simp only [nrm,xdn,reduceIte,Nat.reduceLT,Nat.reduceSub,Nat.reduceAdd,Int.toNat_natCast,e15,es,CD.row,CD.ax,aC,Frm.cds,Mem.cds,lca,List.headD_cons,ha,hC,Wrd.cds]
   ·simp only [nrm,xdn,reduceIte,Nat.reduceLT,Nat.reduceSub,Nat.reduceAdd,Frm.cds,Mem.cds,lca] at h3
    rw [if_neg (fun x=>h3 x.2)]
    refine ag ?_ (aj ?_)
    ·simp only [nrm,xdn,reduceIte,Nat.reduceLT,Nat.reduceSub,Nat.reduceAdd,Int.toNat_natCast,CD.ax,aC,Frm.cds,Mem.cds,lca]
     exact cls hB
    ·simp only [nrm,xdn,reduceIte,Nat.reduceLT,Nat.reduceSub,Nat.reduceAdd,Int.toNat_natCast,CD.ax,aC,Frm.cds,hB,Wrd.cds,Wrd.gone,Mem.cds,lca]
  ·simp only [nrm,xdn,reduceIte,Nat.reduceLT,Nat.reduceSub,Nat.reduceAdd,Frm.cds,Mem.cds,lca] at h2
   rw [if_neg (fun x=>by rw [h2] at x;exact Bool.noConfusion x.1)]
   refine ag ?_ (aj ?_)
   ·simp only [nrm,xdn,reduceIte,Nat.reduceLT,Nat.reduceSub,Nat.reduceAdd,Int.toNat_natCast,CD.ax,aC,Frm.cds,Mem.cds,lca]
    exact cls hB
   ·simp only [nrm,xdn,reduceIte,Nat.reduceLT,Nat.reduceSub,Nat.reduceAdd,Int.toNat_natCast,CD.ax,aC,Frm.cds,hB,Wrd.cds,Wrd.gone,Mem.cds,lca]
 simp only [nrm,xdn,reduceIte,Nat.reduceLT,Nat.reduceSub,Nat.reduceAdd,Int.toNat_natCast,e1] at h1
 rw [if_neg h1]
 refine G0 (fun h2=>?_) (fun h2=>?_)
 ·simp only [nrm,xdn,reduceIte,Nat.reduceLT,Nat.reduceSub,Nat.reduceAdd,Int.toNat_natCast,e1] at h2
  rw [if_pos h2]
  refine ai d107 ((G3 m t.f k).2.cds ++ (G3 m t.f k).1.cds) rfl (by simp only [nrm,xdn,reduceIte,Nat.reduceLT,Nat.reduceSub,Nat.reduceAdd,Int.toNat_natCast,e1,e2,e3,e4,e5,e6,e7,e8,e9,e10,e11,e12,e13,e14];exact pi107 hm hf h2 k) (by simp only [nrm,xdn,reduceIte,Nat.reduceLT,Nat.reduceSub,Nat.reduceAdd,Int.toNat_natCast,e1,e2,e3,e4,e5,e6,e7,e8,e9,e10,e11,e12,e13,e14,fn107]) ?_
  generalize G3 m t.f k=r
  have hB:=Jo ht hto (!r.1.done) r.1
  refine ag ?_ (aj ?_)
  ·simp only [nrm,xdn,reduceIte,Nat.reduceLT,Nat.reduceSub,Nat.reduceAdd,Int.toNat_natCast,CD.ax,aC,Frm.cds,Mem.cds,lca]
   exact cls hB
  ·simp only [nrm,xdn,reduceIte,Nat.reduceLT,Nat.reduceSub,Nat.reduceAdd,Int.toNat_natCast,CD.ax,aC,Frm.cds,hB,Wrd.cds,Wrd.gone,Mem.cds,lca]
 simp only [nrm,xdn,reduceIte,Nat.reduceLT,Nat.reduceSub,Nat.reduceAdd,Int.toNat_natCast,e1] at h2
 rw [if_neg h2]
 refine G0 (fun h3=>?_) (fun h3=>?_)
 ·simp only [nrm,xdn,reduceIte,Nat.reduceLT,Nat.reduceSub,Nat.reduceAdd,Int.toNat_natCast,e1] at h3
  rw [if_pos h3]
  refine ai d104 ((aL m t.f k).2.cds ++ (aL m t.f k).1.cds) rfl (by simp only [nrm,xdn,reduceIte,Nat.reduceLT,Nat.reduceSub,Nat.reduceAdd,Int.toNat_natCast,e1,e2,e3,e4,e5,e6,e7,e8,e9,e10,e11,e12,e13,e14];exact pi104 hm hf h3 k) (by simp only [nrm,xdn,reduceIte,Nat.reduceLT,Nat.reduceSub,Nat.reduceAdd,Int.toNat_natCast,e1,e2,e3,e4,e5,e6,e7,e8,e9,e10,e11,e12,e13,e14,fn104]) ?_
  generalize aL m t.f k=r
  have hB:=Jo ht hto (!r.1.done) r.1
  refine ag ?_ (aj ?_)
  ·simp only [nrm,xdn,reduceIte,Nat.reduceLT,Nat.reduceSub,Nat.reduceAdd,Int.toNat_natCast,CD.ax,aC,Frm.cds,Mem.cds,lca]
   exact cls hB
  ·simp only [nrm,xdn,reduceIte,Nat.reduceLT,Nat.reduceSub,Nat.reduceAdd,Int.toNat_natCast,CD.ax,aC,Frm.cds,hB,Wrd.cds,Wrd.gone,Mem.cds,lca]
 simp only [nrm,xdn,reduceIte,Nat.reduceLT,Nat.reduceSub,Nat.reduceAdd,Int.toNat_natCast,e1] at h3
 rw [if_neg h3]
 refine G0 (fun h4=>?_) (fun h4=>?_)
 ·simp only [nrm,xdn,reduceIte,Nat.reduceLT,Nat.reduceSub,Nat.reduceAdd,Int.toNat_natCast,e1] at h4
  rw [if_pos (.inl h4)]
  refine ai d110 ((aB m t.f k).2.cds ++ (aB m t.f k).1.cds) rfl (by simp only [nrm,xdn,reduceIte,Nat.reduceLT,Nat.reduceSub,Nat.reduceAdd,Int.toNat_natCast,e1,e2,e3,e4,e5,e6,e7,e8,e9,e10,e11,e12,e13,e14];exact pi110 hm hf (.inl h4) k) (by simp only [nrm,xdn,reduceIte,Nat.reduceLT,Nat.reduceSub,Nat.reduceAdd,Int.toNat_natCast,e1,e2,e3,e4,e5,e6,e7,e8,e9,e10,e11,e12,e13,e14,fn110]) ?_
  generalize aB m t.f k=r
  have hB:=Jo ht hto (!r.1.done) r.1
  refine ag ?_ (aj ?_)
  ·simp only [nrm,xdn,reduceIte,Nat.reduceLT,Nat.reduceSub,Nat.reduceAdd,Int.toNat_natCast,CD.ax,aC,Frm.cds,Mem.cds,lca]
   exact cls hB
  ·simp only [nrm,xdn,reduceIte,Nat.reduceLT,Nat.reduceSub,Nat.reduceAdd,Int.toNat_natCast,CD.ax,aC,Frm.cds,hB,Wrd.cds,Wrd.gone,Mem.cds,lca]
 simp only [nrm,xdn,reduceIte,Nat.reduceLT,Nat.reduceSub,Nat.reduceAdd,Int.toNat_natCast,e1] at h4
 refine G0 (fun h5=>?_) (fun h5=>?_)
 ·simp only [nrm,xdn,reduceIte,Nat.reduceLT,Nat.reduceSub,Nat.reduceAdd,Int.toNat_natCast,e1] at h5
  rw [if_pos (.inr h5)]
  refine ai d110 ((aB m t.f k).2.cds ++ (aB m t.f k).1.cds) rfl (by simp only [nrm,xdn,reduceIte,Nat.reduceLT,Nat.reduceSub,Nat.reduceAdd,Int.toNat_natCast,e1,e2,e3,e4,e5,e6,e7,e8,e9,e10,e11,e12,e13,e14];exact pi110 hm hf (.inr h5) k) (by simp only [nrm,xdn,reduceIte,Nat.reduceLT,Nat.reduceSub,Nat.reduceAdd,Int.toNat_natCast,e1,e2,e3,e4,e5,e6,e7,e8,e9,e10,e11,e12,e13,e14,fn110]) ?_
  generalize aB m t.f k=r
  have hB:=Jo ht hto (!r.1.done) r.1
  refine ag ?_ (aj ?_)
  ·simp only [nrm,xdn,reduceIte,Nat.reduceLT,Nat.reduceSub,Nat.reduceAdd,Int.toNat_natCast,CD.ax,aC,Frm.cds,Mem.cds,lca]
   exact cls hB
  ·simp only [nrm,xdn,reduceIte,Nat.reduceLT,Nat.reduceSub,Nat.reduceAdd,Int.toNat_natCast,CD.ax,aC,Frm.cds,hB,Wrd.cds,Wrd.gone,Mem.cds,lca]
 simp only [nrm,xdn,reduceIte,Nat.reduceLT,Nat.reduceSub,Nat.reduceAdd,Int.toNat_natCast,e1] at h5
 rw [if_neg (fun x=>x.elim h4 h5)]
 have h6 : t.f.c.kind=6:=by
  have:=hf.call
  unfold bf at this
  rw [if_neg (by omega),if_neg (by omega),if_neg (by omega)] at this
  split at this
  ·assumption
  ·cases this
 refine G0 (fun _=>?_) (fun h7=>?_)
 ·have hs : 0≤t.f.c.slot∧t.f.c.slot < m.slots.length:=by
   have:=hf.call
   unfold bf at this
   rw [if_neg (by omega),if_neg (by omega),if_neg (by omega),if_pos h6] at this
   split at this
   ·cases this
   ·omega
  refine ag (by simp only [nrm,xdn,reduceIte,Nat.reduceLT,Nat.reduceSub,Nat.reduceAdd,Int.toNat_natCast,e15,eo]) (ai d179 [.i (indexOf t.f.c.slot t.held 0)] rfl trivial (by simp only [nrm,xdn,reduceIte,Nat.reduceLT,Nat.reduceSub,Nat.reduceAdd,Int.toNat_natCast,e15,es,e6,d179,bY]) (G0 (fun h8=>?_) (fun h8=>?_)))
  ·simp only [nrm,xdn,reduceIte,Nat.reduceLT,Nat.reduceSub,Nat.reduceAdd] at h8
   rw [if_pos h8]
   have hu:=tx t.f.c.slot t.held 0
   have hr:=hm.refs hs.1 hs.2
   have hnf:=hm.nf
   refine ai d167 (put m t.f.c.slot).cds rfl (by simp only [nrm,xdn,reduceIte,Nat.reduceLT,Nat.reduceSub,Nat.reduceAdd,Int.toNat_natCast,e6,d167,mem_of,aA];exact ⟨hs.1,hs.2,hr.1,hr.2,by omega⟩) (by simp only [nrm,xdn,reduceIte,Nat.reduceLT,Nat.reduceSub,Nat.reduceAdd,Int.toNat_natCast,e6,d167,mem_of,aA]) ?_
   generalize put m t.f.c.slot=q
   refine G1 (by simp only [nrm,xdn,reduceIte,Nat.reduceLT,Nat.reduceSub,Nat.reduceAdd,Mem.cds];omega) (ai d215 [af (t.held.take (indexOf t.f.c.slot t.held 0).toNat ++ t.held.drop (indexOf t.f.c.slot t.held 0 + 1).toNat)] rfl ?_ ?_ ?_)
   ·simp only [nrm,xdn,reduceIte,Nat.reduceLT,Nat.reduceSub,Nat.reduceAdd,Mem.cds,Int.toNat_natCast,e15,es,d215,bY,lca];omega
   ·simp only [nrm,xdn,reduceIte,Nat.reduceLT,Nat.reduceSub,Nat.reduceAdd,Mem.cds,Int.toNat_natCast,e15,es,d215,bY,lca]
   generalize t.held.take (indexOf t.f.c.slot t.held 0).toNat ++ t.held.drop (indexOf t.f.c.slot t.held 0 + 1).toNat=l
   refine ai d44 (ay t.f 0).cds rfl trivial (by simp only [nrm,xdn,reduceIte,Nat.reduceLT,Nat.reduceSub,Nat.reduceAdd,Mem.cds,Int.toNat_natCast,e1,e2,e3,e4,e5,e6,e7,e8,e9,e10,e11,e12,e13,e14,d44,dJ]) ?_
   generalize ay t.f 0=F
   have hB:=put_D ht hto (!F.done) F l
   refine ag ?_ (aj ?_)
   ·simp only [nrm,xdn,reduceIte,Nat.reduceLT,Nat.reduceSub,Nat.reduceAdd,Int.toNat_natCast,CD.ax,aC,Frm.cds,Mem.cds,lca]
    exact cls hB
   ·simp only [nrm,xdn,reduceIte,Nat.reduceLT,Nat.reduceSub,Nat.reduceAdd,Int.toNat_natCast,CD.ax,aC,Frm.cds,hB,Wrd.cds,Wrd.gone,Mem.cds,lca]
  ·simp only [nrm,xdn,reduceIte,Nat.reduceLT,Nat.reduceSub,Nat.reduceAdd] at h8
   rw [if_neg h8]
   refine ai d44 (ay t.f 0).cds rfl trivial (by simp only [nrm,xdn,reduceIte,Nat.reduceLT,Nat.reduceSub,Nat.reduceAdd,Int.toNat_natCast,e1,e2,e3,e4,e5,e6,e7,e8,e9,e10,e11,e12,e13,e14,d44,dJ]) ?_
   generalize ay t.f 0=F
   have hB : CD.l _=az (ts.modify k fun t=>{ t with busy:=!F.done,f:=F}):=put_A2 ht hto (!F.done) F
   refine ag ?_ (aj ?_)
   ·simp only [nrm,xdn,reduceIte,Nat.reduceLT,Nat.reduceSub,Nat.reduceAdd,Int.toNat_natCast,e15,es,CD.ax,aC,Frm.cds,Mem.cds,lca]
    exact cls hB
   ·simp only [nrm,xdn,reduceIte,Nat.reduceLT,Nat.reduceSub,Nat.reduceAdd,Int.toNat_natCast,e15,es,CD.ax,aC,Frm.cds,hB,Wrd.cds,Wrd.gone,Mem.cds,lca]
 ·simp only [nrm,xdn,reduceIte,Nat.reduceLT,Nat.reduceSub,Nat.reduceAdd,Int.toNat_natCast,e1] at h7
  exact absurd h6 h7
end Go.Proofs.Ytpmamacjepcdmaa

namespace Go.Proofs.Ytpmamacjepcdmaa
open Go Go.Sy Go.RowKit
set_option linter.unusedSimpArgs false
set_option linter.unusedVariables false
theorem Bz {l : List Int} {j : Nat} (h : j < l.length) : l.take (j + 1)=l.take j ++ [l.getD j 0]:=by
 rw [List.take_succ_eq_append_getElem h,List.getD_eq_getElem?_getD,List.getElem?_eq_getElem h,Option.getD_some]
def s71 : Sig:=⟨[.agg [.fz kS,.fz kI,.fz kI,.fz kI,.int .i64]],[.one (.own 78 kW),.one (.int .i64)]⟩
def d71 : DC:=⟨s71,fun _=>True,fun l=>[eM (jM (Mem.of l)).1,.i (jM (Mem.of l)).2]⟩
theorem fn71 (m : Mem) : d71.fn [au m.slots,af m.heads,af m.free,af m.locks,.i m.now]=[eM (jM m).1,.i (jM m).2]:=by simp only [d71,mem_of,aA]
def l71 : List (Nat × Ct):=[(74,d74.ct),(168,d168.ct)]
def z71 : Cx:={ T:=ttA,C:=sigs l71,F:=[],hints:=[⟨71,6,false,[(19,.lt),(5,.own 78 kW)],[],[],[],0,0,false⟩,⟨71,10,false,[(30,.lt),(5,.own 78 kW)],[],[],[],0,0,false⟩],sig:=s71}
def t71 : Tree :=
 (.call 74 [.var 0,.var 1,.var 2,.var 3,.var 4] 5
 (.ite (.not (.eq (.var 5) (.int 0)))
 (.ret [.nil,.var 5])
 (.loop 6 [.sl 32 [.int .i64,.int .i64,.int .i64,.int .i64],.int .i64] [.nil,.int 0]
 (.ite (.lt (.var 8) (.len (.var 1)))
 (.call 168 [.var 0,.var 1,.var 2,.var 3,.var 4,.var 8] 9
 (.loop 11 [.sl 32 [.int .i64,.int .i64,.int .i64,.int .i64],.int .i64] [.var 7,.int 0]
 (.ite (.lt (.var 13) (.len (.var 9)))
 (.need (.le (.int 0) (.var 13))
 (.need (.le (.int 0) (.cell (.var 9) (.var 13) 0))
 (.need (.lt (.cell (.var 9) (.var 13) 0) (.len (.var 0)))
 (.need (.le (.add (.len (.var 12)) (.int 1)) (.int 4398046511104))
 (.need (.fit (.add (.var 13) (.int 1)))
 (.back 11 [.app (.var 12) (.cons (.cell (.var 0) (.cell (.var 9) (.var 13) 0) 1) (.cons (.cell (.var 0) (.cell (.var 9) (.var 13) 0) 2) (.cons (.cell (.var 9) (.var 13) 0) (.cons (.cell (.var 0) (.cell (.var 9) (.var 13) 0) 3) .row0)))),.add (.var 13) (.int 1)]))))))
 (.need (.fit (.add (.var 8) (.int 1)))
 (.back 6 [.var 12,.add (.var 8) (.int 1)])))))
 (.ret [.var 7,.int 0])))))
theorem run71 : run z71 6000 [.code (Try.f71.body.getD .skip),.fin (bt z71 Try.f71.results.toList 50)] { fn:=71,tmps:=z71.sig.aM ++ List.replicate (Try.f71.ntmps - z71.sig.aM.length) (.v (.one .undef)),stk:=[],h:=z71.sig.h0,nx:=z71.sig.ins.length,known:=[]}=t71:=by kernel_rfl
theorem ok71 : cB Try.prog 71 d71.ct:=by
 refine aD (d:=d71) (Z:=z71) (Γ:=gam l71) (fn:=Try.f71) (c:=Try.f71.body.getD .skip) (bg tok mixed (all_cons ok74 (all_cons ok168 all_nil)) bh) Try.func71 (by kernel_rfl) (by kernel_rfl) rfl run71 fun E hk hp=>?_
 obtain ⟨hk0,hk1,hk2,hk3,hk4,_⟩:=hk
 obtain ⟨m,e0,e1,e2,e3,e4,b0,b1,b2,b3⟩:=cv (d0:=E 0) (d1:=E 1) (d2:=E 2) (d3:=E 3) (d4:=E 4) hk0 hk1 hk2 hk3 hk4
 have el : aH E d71.sig.ins.length=[au m.slots,af m.heads,af m.free,af m.locks,.i m.now]:=by
  show [E 0,E 1,E 2,E 3,E 4]=_
  rw [e0,e1,e2,e3,e4]
 rw [el] at hp
 rw [el]
 rw [Env.bJ el]
 clear el e0 e1 e2 e3 e4
 rw [fn71]
 unfold jM
 unfold t71
 refine ai d74 [.i (bU m)] rfl trivial (by simp only [nrm,xdn,reduceIte,Nat.reduceLT,Nat.reduceSub,Nat.reduceAdd,fn74]) (G0 (fun h=>aj ?_) (fun h=>?_))
 ·simp only [nrm,xdn,reduceIte,Nat.reduceLT,Nat.reduceSub,Nat.reduceAdd,Bool.not_eq_true'] at h ⊢
  rw [if_pos h];rfl
 simp only [nrm,xdn,reduceIte,Nat.reduceLT,Nat.reduceSub,Nat.reduceAdd,Bool.not_eq_false'] at h
 rw [if_neg (by omega)]
 have hm:=rM (by omega : bU m=0)
 have hns:=hm.ns
 have hnh:=hm.nh4
 refine bO (fun ds=>∃ (b : Nat) (acc : List cI),ds=[eM acc,.i b]∧b≤m.heads.length∧acc.length≤b * 12∧aq m=bC m (m.heads.length - b) b acc) (fun ds=>m.heads.length - (ds.getD 1 .u).int.toNat) ⟨0,[],rfl,by omega,by simp,rfl⟩ ?_
 rintro ds - ⟨b,acc,rfl,hb,hkl,ht⟩
 refine G0 (fun hlt=>?_) (fun hge=>aj ?_)
 ·simp only [nrm,xdn,reduceIte,Nat.reduceLT,Nat.reduceSub,Nat.reduceAdd,aw] at hlt
  have e1 : m.heads.length - b=m.heads.length - (b + 1) + 1:=by omega
  rw [e1] at ht
  refine ai d168 [af (bP m b).1,.i (bP m b).2] rfl ?_ (by simp only [nrm,xdn,reduceIte,Nat.reduceLT,Nat.reduceSub,Nat.reduceAdd,fn168]) ?_
  ·simp only [nrm,xdn,reduceIte,Nat.reduceLT,Nat.reduceSub,Nat.reduceAdd]
   exact pre168 hm (by omega) (by omega)
  obtain ⟨hl,hlm⟩:=oL hm b
  rw [bC] at ht
  generalize (bP m b).1=l at *
  refine bO (fun ds=>∃ (j : Nat) (acc' : List cI),ds=[eM acc',.i j]∧j≤l.length∧acc'=acc ++ (l.take j).map (bu m)) (fun ds=>l.length - (ds.getD 1 .u).int.toNat) ⟨0,acc,?_,by omega,by simp⟩ ?_
  ·simp only [nrm,xdn,reduceIte,Nat.reduceLT,Nat.reduceSub,Nat.reduceAdd];rfl
  rintro ds - ⟨j,acc',rfl,hj,hs⟩
  have hal : acc'.length=acc.length + j:=by rw [hs];simp;omega
  refine G0 (fun hlt'=>?_) (fun hge'=>?_)
  ·simp only [nrm,xdn,reduceIte,Nat.reduceLT,Nat.reduceSub,Nat.reduceAdd,aw] at hlt'
   have ha:=hlm (l.getD j 0) (pA (by omega))
   have hraw : ((af l).rows.getD j []).getD 0 .u=.i (l.getD j 0):=iK (by omega)
   have hnx : acc ++ (l.take (j + 1)).map (bu m)=acc' ++ [bu m (l.getD j 0)]:=by
    rw [Bz (by omega),hs,List.map_append,← List.append_assoc];rfl
   generalize hag : l.getD j 0=a at *
   have hk1 : ((au m.slots).rows.getD a.toNat []).getD 1 .u=.i (msl m a.toNat).k.a:=qc (by omega)
   have hk2 : ((au m.slots).rows.getD a.toNat []).getD 2 .u=.i (msl m a.toNat).k.b:=qb (by omega)
   have hk3 : ((au m.slots).rows.getD a.toNat []).getD 3 .u=.i (msl m a.toNat).till:=FO (by omega)
   refine ag (by simp only [nrm,xdn,reduceIte,Nat.reduceLT,Nat.reduceSub,Nat.reduceAdd];omega) (ag (by simp only [nrm,xdn,reduceIte,Nat.reduceLT,Nat.reduceSub,Nat.reduceAdd,Int.toNat_natCast,hraw];omega) (ag (by simp only [nrm,xdn,reduceIte,Nat.reduceLT,Nat.reduceSub,Nat.reduceAdd,Int.toNat_natCast,hraw,aN];omega) (eh (by simp only [nrm,xdn,reduceIte,Nat.reduceLT,Nat.reduceSub,Nat.reduceAdd,iT];omega) (G1 (by simp only [nrm,xdn,reduceIte,Nat.reduceLT,Nat.reduceSub,Nat.reduceAdd];omega) (aV ⟨⟨j + 1,_,?_,by omega,hnx.symm⟩,?_⟩)))))
   ·simp only [nrm,xdn,reduceIte,Nat.reduceLT,Nat.reduceSub,Nat.reduceAdd,Int.toNat_natCast,hraw,hk1,hk2,hk3,CD.row,List.headD_cons,Eb]
    rfl
   ·simp only [nrm,xdn,reduceIte,Nat.reduceLT,Nat.reduceSub,Nat.reduceAdd];omega
  ·simp only [nrm,xdn,reduceIte,Nat.reduceLT,Nat.reduceSub,Nat.reduceAdd,aw] at hge'
   have hjl : j=l.length:=by omega
   subst hjl
   rw [List.take_length] at hs
   refine G1 (by simp only [nrm,xdn,reduceIte,Nat.reduceLT,Nat.reduceSub,Nat.reduceAdd];omega) (fj (by decide) ⟨⟨b + 1,acc',?_,by omega,by omega,?_⟩,?_⟩)
   ·simp only [nrm,xdn,reduceIte,Nat.reduceLT,Nat.reduceSub,Nat.reduceAdd];rfl
   ·rw [ht,hs]
   ·simp only [nrm,xdn,reduceIte,Nat.reduceLT,Nat.reduceSub,Nat.reduceAdd];omega
 ·simp only [nrm,xdn,reduceIte,Nat.reduceLT,Nat.reduceSub,Nat.reduceAdd,aw] at hge ⊢
  rw [show m.heads.length - b=0 from by omega] at ht
  rw [ht];rfl
def s76 : Sig:=⟨[.agg [.fz kS,.fz kI,.fz kI,.fz kI,.int .i64]],[.one (.own 78 kW)]⟩
def d76 : DC:=⟨s76,fun l=>bU (Mem.of l)=0,fun l=>[eM (aq (Mem.of l))]⟩
theorem fn76 (m : Mem) : d76.fn [au m.slots,af m.heads,af m.free,af m.locks,.i m.now]=[eM (aq m)]:=by simp only [d76,mem_of,aA]
def l76 : List (Nat × Ct):=[(77,d77.ct)]
def z76 : Cx:={ T:=ttA,C:=sigs l76,F:=[],hints:=[⟨76,3,false,[(12,.lt),(3,.own 78 kW)],[],[],[],0,0,false⟩,⟨76,7,false,[(23,.lt),(3,.own 78 kW)],[],[],[],0,0,false⟩],sig:=s76}
def t76 : Tree :=
 (.loop 5 [.sl 32 [.int .i64,.int .i64,.int .i64,.int .i64],.int .i64] [.nil,.int 0]
 (.ite (.lt (.var 7) (.len (.var 1)))
 (.call 77 [.var 0,.var 1,.var 2,.var 3,.var 4,.var 7] 8
 (.loop 10 [.sl 32 [.int .i64,.int .i64,.int .i64,.int .i64],.int .i64] [.var 6,.int 0]
 (.ite (.lt (.var 12) (.len (.var 8)))
 (.need (.le (.int 0) (.var 12))
 (.need (.le (.int 0) (.cell (.var 8) (.var 12) 0))
 (.need (.lt (.cell (.var 8) (.var 12) 0) (.len (.var 0)))
 (.need (.le (.add (.len (.var 11)) (.int 1)) (.int 4398046511104))
 (.need (.fit (.add (.var 12) (.int 1)))
 (.back 10 [.app (.var 11) (.cons (.cell (.var 0) (.cell (.var 8) (.var 12) 0) 1) (.cons (.cell (.var 0) (.cell (.var 8) (.var 12) 0) 2) (.cons (.cell (.var 8) (.var 12) 0) (.cons (.cell (.var 0) (.cell (.var 8) (.var 12) 0) 3) .row0)))),.add (.var 12) (.int 1)]))))))
 (.need (.fit (.add (.var 7) (.int 1)))
 (.back 5 [.var 11,.add (.var 7) (.int 1)])))))
 (.ret [.var 6])))
theorem run76 : run z76 6000 [.code (Try.f76.body.getD .skip),.fin (bt z76 Try.f76.results.toList 50)] { fn:=76,tmps:=z76.sig.aM ++ List.replicate (Try.f76.ntmps - z76.sig.aM.length) (.v (.one .undef)),stk:=[],h:=z76.sig.h0,nx:=z76.sig.ins.length,known:=[]}=t76:=by kernel_rfl
theorem ok76 : cB Try.prog 76 d76.ct:=by
 refine aD (d:=d76) (Z:=z76) (Γ:=gam l76) (fn:=Try.f76) (c:=Try.f76.body.getD .skip) (bg tok mixed (all_cons ok77 all_nil) bh) Try.func76 (by kernel_rfl) (by kernel_rfl) rfl run76 fun E hk hp=>?_
 obtain ⟨hk0,hk1,hk2,hk3,hk4,_⟩:=hk
 obtain ⟨m,e0,e1,e2,e3,e4,b0,b1,b2,b3⟩:=cv (d0:=E 0) (d1:=E 1) (d2:=E 2) (d3:=E 3) (d4:=E 4) hk0 hk1 hk2 hk3 hk4
 have el : aH E d76.sig.ins.length=[au m.slots,af m.heads,af m.free,af m.locks,.i m.now]:=by
  show [E 0,E 1,E 2,E 3,E 4]=_
  rw [e0,e1,e2,e3,e4]
 rw [el] at hp
 rw [el]
 rw [Env.bJ el]
 clear el e0 e1 e2 e3 e4
 rw [fn76]
 simp only [d76,mem_of,aA] at hp
 unfold t76
 have hm:=rM hp
 have hns:=hm.ns
 have hnh:=hm.nh4
 refine bO (fun ds=>∃ (b : Nat) (acc : List cI),ds=[eM acc,.i b]∧b≤m.heads.length∧acc.length≤b * 12∧aq m=bC m (m.heads.length - b) b acc) (fun ds=>m.heads.length - (ds.getD 1 .u).int.toNat) ⟨0,[],rfl,by omega,by simp,rfl⟩ ?_
 rintro ds - ⟨b,acc,rfl,hb,hkl,ht⟩
 refine G0 (fun hlt=>?_) (fun hge=>aj ?_)
 ·simp only [nrm,xdn,reduceIte,Nat.reduceLT,Nat.reduceSub,Nat.reduceAdd,aw] at hlt
  have e1 : m.heads.length - b=m.heads.length - (b + 1) + 1:=by omega
  rw [e1] at ht
  obtain ⟨l,hc⟩:=JO hp (b:=b) (by omega)
  obtain ⟨q1,q2⟩:=H8 hc
  refine ai d77 [af l,.b true] rfl ?_ (by simp only [nrm,xdn,reduceIte,Nat.reduceLT,Nat.reduceSub,Nat.reduceAdd,fn77,q1]) ?_
  ·simp only [nrm,xdn,reduceIte,Nat.reduceLT,Nat.reduceSub,Nat.reduceAdd]
   exact pre77 hm (by omega) (by omega)
  obtain ⟨hl,hlm⟩:=rm hm hc
  rw [bC,q2] at ht
  dsimp only at ht
  refine bO (fun ds=>∃ (j : Nat) (acc' : List cI),ds=[eM acc',.i j]∧j≤l.length∧acc'=acc ++ (l.take j).map (bu m)) (fun ds=>l.length - (ds.getD 1 .u).int.toNat) ⟨0,acc,?_,by omega,by simp⟩ ?_
  ·simp only [nrm,xdn,reduceIte,Nat.reduceLT,Nat.reduceSub,Nat.reduceAdd];rfl
  rintro ds - ⟨j,acc',rfl,hj,hs⟩
  have hal : acc'.length=acc.length + j:=by rw [hs];simp;omega
  refine G0 (fun hlt'=>?_) (fun hge'=>?_)
  ·simp only [nrm,xdn,reduceIte,Nat.reduceLT,Nat.reduceSub,Nat.reduceAdd,aw] at hlt'
   have ha:=hlm (l.getD j 0) (pA (by omega))
   have hraw : ((af l).rows.getD j []).getD 0 .u=.i (l.getD j 0):=iK (by omega)
   have hnx : acc ++ (l.take (j + 1)).map (bu m)=acc' ++ [bu m (l.getD j 0)]:=by
    rw [Bz (by omega),hs,List.map_append,← List.append_assoc];rfl
   generalize hag : l.getD j 0=a at *
   have hk1 : ((au m.slots).rows.getD a.toNat []).getD 1 .u=.i (msl m a.toNat).k.a:=qc (by omega)
   have hk2 : ((au m.slots).rows.getD a.toNat []).getD 2 .u=.i (msl m a.toNat).k.b:=qb (by omega)
   have hk3 : ((au m.slots).rows.getD a.toNat []).getD 3 .u=.i (msl m a.toNat).till:=FO (by omega)
   refine ag (by simp only [nrm,xdn,reduceIte,Nat.reduceLT,Nat.reduceSub,Nat.reduceAdd];omega) (ag (by simp only [nrm,xdn,reduceIte,Nat.reduceLT,Nat.reduceSub,Nat.reduceAdd,Int.toNat_natCast,hraw];omega) (ag (by simp only [nrm,xdn,reduceIte,Nat.reduceLT,Nat.reduceSub,Nat.reduceAdd,Int.toNat_natCast,hraw,aN];omega) (eh (by simp only [nrm,xdn,reduceIte,Nat.reduceLT,Nat.reduceSub,Nat.reduceAdd,iT];omega) (G1 (by simp only [nrm,xdn,reduceIte,Nat.reduceLT,Nat.reduceSub,Nat.reduceAdd];omega) (aV ⟨⟨j + 1,_,?_,by omega,hnx.symm⟩,?_⟩)))))
   ·simp only [nrm,xdn,reduceIte,Nat.reduceLT,Nat.reduceSub,Nat.reduceAdd,Int.toNat_natCast,hraw,hk1,hk2,hk3,CD.row,List.headD_cons,Eb]
    rfl
   ·simp only [nrm,xdn,reduceIte,Nat.reduceLT,Nat.reduceSub,Nat.reduceAdd];omega
  ·simp only [nrm,xdn,reduceIte,Nat.reduceLT,Nat.reduceSub,Nat.reduceAdd,aw] at hge'
   have hjl : j=l.length:=by omega
   subst hjl
   rw [List.take_length] at hs
   refine G1 (by simp only [nrm,xdn,reduceIte,Nat.reduceLT,Nat.reduceSub,Nat.reduceAdd];omega) (fj (by decide) ⟨⟨b + 1,acc',?_,by omega,by omega,?_⟩,?_⟩)
   ·simp only [nrm,xdn,reduceIte,Nat.reduceLT,Nat.reduceSub,Nat.reduceAdd];rfl
   ·rw [ht,hs]
   ·simp only [nrm,xdn,reduceIte,Nat.reduceLT,Nat.reduceSub,Nat.reduceAdd];omega
 ·simp only [nrm,xdn,reduceIte,Nat.reduceLT,Nat.reduceSub,Nat.reduceAdd,aw] at hge ⊢
  rw [show m.heads.length - b=0 from by omega] at ht
  rw [ht];rfl
def hM0 : Mem:=⟨[default,default],[-1,-2],[1,0],[-1,-1],0⟩
def hM1 : Mem:=⟨[⟨1,⟨1,2⟩,5,false,0⟩,default],[-1,-2],[1],[-1,-1],0⟩
def hM2 : Mem:=⟨[⟨1,⟨1,2⟩,5,true,-2⟩,default],[-1,1],[1],[-1,-1],0⟩
def hM3 : Mem:=⟨[⟨1,⟨1,2⟩,5,true,-2⟩,default],[-1,-2],[1],[-1,-1],0⟩
theorem h0 : dx 2 2=(hM0,0):=by decide +kernel
theorem h1 : taken hM0 ⟨1,2⟩ 5=(hM1,0,0):=by decide +kernel
theorem h2 : linked hM1 0=(hM2,0):=by decide +kernel
theorem h3 : jM hM2=([⟨⟨1,2⟩,0,5⟩],0):=by decide +kernel
theorem h4 : EA hM2 ⟨1,2⟩=(hM3,0,0):=by decide +kernel
theorem h5 : slotsOf hM3 1=([],0):=by decide +kernel
end Go.Proofs.Ytpmamacjepcdmaa

namespace Go.Proofs.Ytpmamacjepcdmaa
open Go Go.Sy Go.RowKit
set_option linter.unusedSimpArgs false
set_option linter.unusedVariables false
structure WIn (w : Wrd) : Prop where
 m : aZ w.m
 t : ∀ t∈w.ts,t.own=true∧t.held.length≤10000∧(t.busy=true→bV w.m t.f)
def bN (w : Wrd) (x : Pik) : Wrd × Int :=
 if x.tick=true then (if w.m.now=1000000 then (w,7) else (⟨{ w.m with now:=w.m.now + 1},w.ts⟩,0))
 else if x.task < 0∨(w.ts.length : Int)≤x.task then (w,5)
 else if x.step=true then cN w x.task
 else eR w x.task x.c
def s171 : Sig:=⟨[.ptr [.own 52 kS,.own 3 kI,.own 3 kI,.own 3 kI,.int .i64,.own 129 kTo],.agg [.int .i64,.bool,.bool,.int .i64,.int .i64,.int .i64,.int .i64,.int .i64,.int .i64]],[.one (.int .i64)]⟩
def d171 : DC:=⟨s171,fun l=>WIn (Wrd.of l),fun l=>(bN (Wrd.of l) (Pik.of (l.drop 6))).1.cds ++ [.i (bN (Wrd.of l) (Pik.of (l.drop 6))).2]⟩
theorem oe (a : Int) (b c : Bool) (d e f g h i : Int) (l : List CD) : Pik.of (.i a :: .b b :: .b c :: .i d :: .i e :: .i f :: .i g :: .i h :: .i i :: l)=⟨a,b,c,⟨d,⟨e,f⟩,g,h,i⟩⟩:=rfl
def l171 : List (Nat × Ct):=[(208,d208.ct),(209,d209.ct)]
def z171 : Cx:={ T:=ttA,C:=sigs l171,F:=[],hints:=[],sig:=s171}
def t171 : Tree :=
 (.ite (.var 8)
 (.ite (.eq (.var 4) (.int 1000000))
 (.need (.clean (.var 5) 15)
 (.ret [.var 0,.var 1,.var 2,.var 3,.var 4,.var 5,.int 7]))
 (.need (.fit (.add (.var 4) (.int 1)))
 (.need (.clean (.var 5) 15)
 (.ret [.var 0,.var 1,.var 2,.var 3,.add (.var 4) (.int 1),.var 5,.int 0]))))
 (.ite (.lt (.var 6) (.int 0))
 (.need (.clean (.var 5) 15)
 (.ret [.var 0,.var 1,.var 2,.var 3,.var 4,.var 5,.int 5]))
 (.ite (.le (.len (.var 5)) (.var 6))
 (.need (.clean (.var 5) 15)
 (.ret [.var 0,.var 1,.var 2,.var 3,.var 4,.var 5,.int 5]))
 (.ite (.var 7)
 (.need (.clean (.var 5) 15)
 (.call 208 [.var 0,.var 1,.var 2,.var 3,.var 4,.var 5,.var 6] 15
 (.need (.clean (.var 20) 15)
 (.ret [.var 15,.var 16,.var 17,.var 18,.var 19,.var 20,.var 21]))))
 (.need (.clean (.var 5) 15)
 (.call 209 [.var 0,.var 1,.var 2,.var 3,.var 4,.var 5,.var 6,.var 9,.var 10,.var 11,.var 12,.var 13,.var 14] 15
 (.need (.clean (.var 20) 15)
 (.ret [.var 15,.var 16,.var 17,.var 18,.var 19,.var 20,.var 21]))))))))
theorem run171 : run z171 6000 [.code (Try.f171.body.getD .skip),.fin (bt z171 Try.f171.results.toList 50)] { fn:=171,tmps:=z171.sig.aM ++ List.replicate (Try.f171.ntmps - z171.sig.aM.length) (.v (.one .undef)),stk:=[],h:=z171.sig.h0,nx:=z171.sig.ins.length,known:=[]}=t171:=by kernel_rfl
theorem ok171 : cB Try.prog 171 d171.ct:=by
 refine aD (d:=d171) (Z:=z171) (Γ:=gam l171) (fn:=Try.f171) (c:=Try.f171.body.getD .skip) (bg tok mixed (all_cons ok208 (all_cons ok209 all_nil)) bh) Try.func171 (by kernel_rfl) (by kernel_rfl) rfl run171 fun E hk hp=>?_
 obtain ⟨hk0,hk1,hk2,hk3,hk4,hk5,hk6,hk7,hk8,hk9,hk10,hk11,hk12,hk13,hk14,_⟩:=hk
 obtain ⟨m,e0,e1,e2,e3,e4,b0,b1,b2,b3⟩:=cv (d0:=E 0) (d1:=E 1) (d2:=E 2) (d3:=E 3) (d4:=E 4) hk0 hk1 hk2 hk3 hk4
 obtain ⟨ts,e5,hts,b5⟩:=qf (d:=E 5) hk5
 have b5 : ts.length * 160≤140737488355328:=b5
 obtain ⟨x,e6,e7,e8,e9,e10,e11,e12,e13,e14⟩:=vL (d0:=E 6) (d1:=E 7) (d2:=E 8) (d3:=E 9) (d4:=E 10) (d5:=E 11) (d6:=E 12) (d7:=E 13) (d8:=E 14) hk6 hk7 hk8 hk9 hk10 hk11 hk12 hk13 hk14
 have el : aH E d171.sig.ins.length=[au m.slots,af m.heads,af m.free,af m.locks,.i m.now,az ts,.i x.task,.b x.step,.b x.tick,.i x.c.kind,.i x.c.k.a,.i x.c.k.b,.i x.c.time,.i x.c.bucket,.i x.c.slot]:=by
  show [E 0,E 1,E 2,E 3,E 4,E 5,E 6,E 7,E 8,E 9,E 10,E 11,E 12,E 13,E 14]=_
  rw [e0,e1,e2,e3,e4,e5,e6,e7,e8,e9,e10,e11,e12,e13,e14]
 rw [el] at hp
 rw [el]
 rw [Env.bJ el]
 clear el e0 e1 e2 e3 e4 e5 e6 e7 e8 e9 e10 e11 e12 e13 e14
 simp only [d171,fX,List.drop_succ_cons,List.drop_zero,oe,aA,cz] at hp ⊢
 have hn:=hp.m.Ik
 have hn0:=hp.m.ma
 unfold bN
 unfold t171
 refine G0 (fun h=>?_) (fun h=>?_)
 ·simp only [nrm,xdn,reduceIte,Nat.reduceLT,Nat.reduceSub,Nat.reduceAdd] at h
  rw [if_pos h]
  refine G0 (fun h1=>?_) (fun h1=>?_)
  ·simp only [nrm,xdn,reduceIte,Nat.reduceLT,Nat.reduceSub,Nat.reduceAdd] at h1
   rw [if_pos h1]
   refine ag (by simp only [nrm,xdn,reduceIte,Nat.reduceLT,Nat.reduceSub,Nat.reduceAdd];exact aI ts) (aj ?_)
   simp only [nrm,xdn,reduceIte,Nat.reduceLT,Nat.reduceSub,Nat.reduceAdd,Wrd.cds,Mem.cds,lca]
  ·simp only [nrm,xdn,reduceIte,Nat.reduceLT,Nat.reduceSub,Nat.reduceAdd] at h1
   rw [if_neg h1]
   have hn : m.now≤1000000:=hn
   have hn0 : 0≤m.now:=hn0
   refine G1 (by simp only [nrm,xdn,reduceIte,Nat.reduceLT,Nat.reduceSub,Nat.reduceAdd];omega) (ag (by simp only [nrm,xdn,reduceIte,Nat.reduceLT,Nat.reduceSub,Nat.reduceAdd];exact aI ts) (aj ?_))
   simp only [nrm,xdn,reduceIte,Nat.reduceLT,Nat.reduceSub,Nat.reduceAdd,Wrd.cds,Mem.cds,lca]
 simp only [nrm,xdn,reduceIte,Nat.reduceLT,Nat.reduceSub,Nat.reduceAdd] at h
 rw [if_neg (by rw [h];exact Bool.false_ne_true)]
 refine G0 (fun h1=>?_) (fun h1=>G0 (fun h2=>?_) (fun h2=>?_))
 ·simp only [nrm,xdn,reduceIte,Nat.reduceLT,Nat.reduceSub,Nat.reduceAdd] at h1
  rw [if_pos (.inl h1)]
  refine ag (by simp only [nrm,xdn,reduceIte,Nat.reduceLT,Nat.reduceSub,Nat.reduceAdd];exact aI ts) (aj ?_)
  simp only [nrm,xdn,reduceIte,Nat.reduceLT,Nat.reduceSub,Nat.reduceAdd,Wrd.cds,Mem.cds,lca]
 ·simp only [nrm,xdn,reduceIte,Nat.reduceLT,Nat.reduceSub,Nat.reduceAdd,eK] at h2
  rw [if_pos (.inr h2)]
  refine ag (by simp only [nrm,xdn,reduceIte,Nat.reduceLT,Nat.reduceSub,Nat.reduceAdd];exact aI ts) (aj ?_)
  simp only [nrm,xdn,reduceIte,Nat.reduceLT,Nat.reduceSub,Nat.reduceAdd,Wrd.cds,Mem.cds,lca]
 simp only [nrm,xdn,reduceIte,Nat.reduceLT,Nat.reduceSub,Nat.reduceAdd,eK] at h1 h2
 rw [if_neg (fun y=>y.elim h1 h2)]
 refine G0 (fun h3=>?_) (fun h3=>?_)
 ·simp only [nrm,xdn,reduceIte,Nat.reduceLT,Nat.reduceSub,Nat.reduceAdd] at h3
  rw [if_pos h3]
  refine ag (by simp only [nrm,xdn,reduceIte,Nat.reduceLT,Nat.reduceSub,Nat.reduceAdd];exact aI ts) (ai d208 ((cN ⟨m,ts⟩ x.task).1.cds ++ [.i (cN ⟨m,ts⟩ x.task).2]) rfl ?_ (by simp only [nrm,xdn,reduceIte,Nat.reduceLT,Nat.reduceSub,Nat.reduceAdd,d208,fX,aA]) ?_)
  ·simp only [nrm,xdn,reduceIte,Nat.reduceLT,Nat.reduceSub,Nat.reduceAdd,d208,fX,aA]
   have hg : tsk ⟨m,ts⟩ x.task∈ts:=fc (by omega)
   exact ⟨by omega,by omega,fun t ht=>⟨(hp.t t ht).1,(hp.t t ht).2.1⟩,hp.m,(hp.t _ hg).2.2⟩
  generalize cN ⟨m,ts⟩ x.task=r
  refine ag (by simp only [nrm,xdn,reduceIte,Nat.reduceLT,Nat.reduceSub,Nat.reduceAdd,Wrd.cds,Mem.cds,lca];exact aI _) (aj ?_)
  simp only [nrm,xdn,reduceIte,Nat.reduceLT,Nat.reduceSub,Nat.reduceAdd,Wrd.cds,Mem.cds,lca]
 ·simp only [nrm,xdn,reduceIte,Nat.reduceLT,Nat.reduceSub,Nat.reduceAdd] at h3
  rw [if_neg (by rw [h3];exact Bool.false_ne_true)]
  refine ag (by simp only [nrm,xdn,reduceIte,Nat.reduceLT,Nat.reduceSub,Nat.reduceAdd];exact aI ts) (ai d209 ((eR ⟨m,ts⟩ x.task x.c).1.cds ++ [.i (eR ⟨m,ts⟩ x.task x.c).2]) rfl ?_ (by simp only [nrm,xdn,reduceIte,Nat.reduceLT,Nat.reduceSub,Nat.reduceAdd,d209,fX,aA,List.drop_succ_cons,List.drop_zero,fG,cz]) ?_)
  ·simp only [nrm,xdn,reduceIte,Nat.reduceLT,Nat.reduceSub,Nat.reduceAdd,d209,fX,aA]
   exact ⟨by omega,by omega,fun t ht=>(hp.t t ht).1⟩
  generalize eR ⟨m,ts⟩ x.task x.c=r
  refine ag (by simp only [nrm,xdn,reduceIte,Nat.reduceLT,Nat.reduceSub,Nat.reduceAdd,Wrd.cds,Mem.cds,lca];exact aI _) (aj ?_)
  simp only [nrm,xdn,reduceIte,Nat.reduceLT,Nat.reduceSub,Nat.reduceAdd,Wrd.cds,Mem.cds,lca]
theorem lS {m : Mem} : ∀ {ts : List Tsk},eC m ts=0→∀ t∈ts,dO m t=0
 | [],_,_,h=>by cases h
 | t :: ts,h,u,hu=>by
  have h : (if dO m t≠0 then dO m t else eC m ts)=0:=h
  split at h
  ·rename_i h1;exact absurd h h1
  ·rename_i h1
   rcases List.mem_cons.1 hu with rfl | hu
   ·exact Classical.not_not.1 h1
   ·exact lS h u hu
theorem sv {m : Mem} {t : Tsk} (h : dO m t=0) : t.held.length≤100∧fb m.slots.length t.held=0∧(t.busy=true→bV m t.f):=by
 unfold dO at h
 split at h
 ·cases h
 ·split at h
  ·rename_i h1;exact absurd h h1
  ·rename_i h0 h1
   refine ⟨by omega,Classical.not_not.1 h1,fun hb=>?_⟩
   rw [if_pos hb] at h
   exact (mD m t.f).1 h
theorem Is {w : Wrd} (h : bL w=0) : WIn w.bm:=by
 unfold bL at h
 split at h
 ·rename_i h1;exact absurd h h1
 ·rename_i h1
  split at h
  ·cases h
  ·refine ⟨((dT w.m).1 (Classical.not_not.1 h1)).rJ,fun t ht=>?_⟩
   obtain ⟨u,hu,rfl⟩:=List.mem_map.1 ht
   obtain ⟨k1,_,k2⟩:=sv (lS h u hu)
   exact ⟨rfl,by show u.held.length≤_;omega,k2⟩
def doW (w : Wrd) (x : Pik) : Wrd × Int :=
 if bL w≠0 then (Wrd.none,bL w)
 else if (bN w.bm x).2≠0 then (Wrd.none,(bN w.bm x).2)
 else ((bN w.bm x).1,0)
def s140 : Sig:=⟨[.agg [.fz kS,.fz kI,.fz kI,.fz kI,.int .i64,.fz kT],.agg [.int .i64,.bool,.bool,.int .i64,.int .i64,.int .i64,.int .i64,.int .i64,.int .i64]],[.agg [.own 52 kS,.own 3 kI,.own 3 kI,.own 3 kI,.int .i64,.own 129 kTo],.one (.int .i64)]⟩
def d140 : DC:=⟨s140,fun _=>True,fun l=>(doW (Wrd.of l) (Pik.of (l.drop 6))).1.cds ++ [.i (doW (Wrd.of l) (Pik.of (l.drop 6))).2]⟩
theorem kr (a : List bp) (b c d : List Int) (n : Int) {ts : List Tsk} (h : ∀ t∈ts,t.own=false) (l : List CD) : Wrd.of (au a :: af b :: af c :: af d :: .i n :: G2 ts :: l)=⟨⟨a,b,c,d,n⟩,ts⟩:=by
 rw [kv h];exact fX a b c d n ts l
def l140 : List (Nat × Ct):=[(157,d157.ct),(170,d170.ct),(171,d171.ct)]
def z140 : Cx:={ T:=ttA,C:=sigs l140,F:=[],hints:=[],sig:=s140}
def t140 : Tree :=
 (.call 157 [.var 0,.var 1,.var 2,.var 3,.var 4,.var 5] 15
 (.ite (.not (.eq (.var 15) (.int 0)))
 (.ret [.nil,.nil,.nil,.nil,.int 0,.nil,.var 15])
 (.call 170 [.var 0,.var 1,.var 2,.var 3,.var 4,.var 5] 16
 (.need (.clean (.var 21) 15)
 (.call 171 [.var 16,.var 17,.var 18,.var 19,.var 20,.var 21,.var 6,.var 7,.var 8,.var 9,.var 10,.var 11,.var 12,.var 13,.var 14] 22
 (.ite (.not (.eq (.var 28) (.int 0)))
 (.ret [.nil,.nil,.nil,.nil,.int 0,.nil,.var 28])
 (.need (.clean (.var 27) 15)
 (.ret [.var 22,.var 23,.var 24,.var 25,.var 26,.var 27,.int 0]))))))))
theorem run140 : run z140 6000 [.code (Try.f140.body.getD .skip),.fin (bt z140 Try.f140.results.toList 50)] { fn:=140,tmps:=z140.sig.aM ++ List.replicate (Try.f140.ntmps - z140.sig.aM.length) (.v (.one .undef)),stk:=[],h:=z140.sig.h0,nx:=z140.sig.ins.length,known:=[]}=t140:=by kernel_rfl
theorem ok140 : cB Try.prog 140 d140.ct:=by
 refine aD (d:=d140) (Z:=z140) (Γ:=gam l140) (fn:=Try.f140) (c:=Try.f140.body.getD .skip) (bg tok mixed (all_cons ok157 (all_cons ok170 (all_cons ok171 all_nil))) bh) Try.func140 (by kernel_rfl) (by kernel_rfl) rfl run140 fun E hk hp=>?_
 obtain ⟨hk0,hk1,hk2,hk3,hk4,hk5,hk6,hk7,hk8,hk9,hk10,hk11,hk12,hk13,hk14,_⟩:=hk
 obtain ⟨m,e0,e1,e2,e3,e4,b0,b1,b2,b3⟩:=cv (d0:=E 0) (d1:=E 1) (d2:=E 2) (d3:=E 3) (d4:=E 4) hk0 hk1 hk2 hk3 hk4
 obtain ⟨ts,e5,hts,b5⟩:=hU (d:=E 5) hk5
 have b5 : ts.length * 160≤140737488355328:=b5
 obtain ⟨x,e6,e7,e8,e9,e10,e11,e12,e13,e14⟩:=vL (d0:=E 6) (d1:=E 7) (d2:=E 8) (d3:=E 9) (d4:=E 10) (d5:=E 11) (d6:=E 12) (d7:=E 13) (d8:=E 14) hk6 hk7 hk8 hk9 hk10 hk11 hk12 hk13 hk14
 have el : aH E d140.sig.ins.length=[au m.slots,af m.heads,af m.free,af m.locks,.i m.now,G2 ts,.i x.task,.b x.step,.b x.tick,.i x.c.kind,.i x.c.k.a,.i x.c.k.b,.i x.c.time,.i x.c.bucket,.i x.c.slot]:=by
  show [E 0,E 1,E 2,E 3,E 4,E 5,E 6,E 7,E 8,E 9,E 10,E 11,E 12,E 13,E 14]=_
  rw [e0,e1,e2,e3,e4,e5,e6,e7,e8,e9,e10,e11,e12,e13,e14]
 rw [el] at hp
 rw [el]
 rw [Env.bJ el]
 clear el e0 e1 e2 e3 e4 e5 e6 e7 e8 e9 e10 e11 e12 e13 e14
 have hown : ∀ t∈ts,t.own=false:=fun t ht=>(hts t ht).1
 simp only [d140,kr _ _ _ _ _ hown,List.drop_succ_cons,List.drop_zero,oe,aA,cz]
 have hx : (⟨x.task,x.step,x.tick,x.c⟩ : Pik)=x:=rfl
 rw [hx]
 unfold doW
 unfold t140
 refine ai d157 [.i (bL ⟨m,ts⟩)] rfl trivial (by simp only [nrm,xdn,reduceIte,Nat.reduceLT,Nat.reduceSub,Nat.reduceAdd,d157,kr _ _ _ _ _ hown,aA]) (G0 (fun h=>aj ?_) (fun h=>?_))
 ·simp only [nrm,xdn,reduceIte,Nat.reduceLT,Nat.reduceSub,Nat.reduceAdd] at h ⊢
  rw [if_pos (by simpa using h)]
  rfl
 simp only [nrm,xdn,reduceIte,Nat.reduceLT,Nat.reduceSub,Nat.reduceAdd] at h
 have h : bL ⟨m,ts⟩=0:=by simpa using h
 rw [if_neg (fun y=>y h)]
 have hw:=Is h
 refine ai d170 (Wrd.bm ⟨m,ts⟩).cds rfl trivial (by simp only [nrm,xdn,reduceIte,Nat.reduceLT,Nat.reduceSub,Nat.reduceAdd,d170,kr _ _ _ _ _ hown,aA]) ?_
 generalize hW : Wrd.bm ⟨m,ts⟩=W at *
 refine ag (by simp only [nrm,xdn,reduceIte,Nat.reduceLT,Nat.reduceSub,Nat.reduceAdd,Wrd.cds,Mem.cds,lca];exact aI _) (ai d171 ((bN W x).1.cds ++ [.i (bN W x).2]) rfl ?_ ?_ ?_)
 ·simp only [nrm,xdn,reduceIte,Nat.reduceLT,Nat.reduceSub,Nat.reduceAdd,Wrd.cds,Mem.cds,lca,d171,fX,aA]
  exact hw
 ·simp only [nrm,xdn,reduceIte,Nat.reduceLT,Nat.reduceSub,Nat.reduceAdd,Wrd.cds,Mem.cds,lca,d171,fX,aA,List.drop_succ_cons,List.drop_zero,oe,cz]
 generalize bN W x=r
 refine G0 (fun h1=>aj ?_) (fun h1=>?_)
 ·simp only [nrm,xdn,reduceIte,Nat.reduceLT,Nat.reduceSub,Nat.reduceAdd,Wrd.cds,Mem.cds,lca] at h1 ⊢
  rw [if_pos (by simpa using h1)]
  rfl
 simp only [nrm,xdn,reduceIte,Nat.reduceLT,Nat.reduceSub,Nat.reduceAdd,Wrd.cds,Mem.cds,lca] at h1
 rw [if_neg (by simpa using h1)]
 refine ag (by simp only [nrm,xdn,reduceIte,Nat.reduceLT,Nat.reduceSub,Nat.reduceAdd,Wrd.cds,Mem.cds,lca];exact aI _) (aj ?_)
 simp only [nrm,xdn,reduceIte,Nat.reduceLT,Nat.reduceSub,Nat.reduceAdd,Wrd.cds,Mem.cds,lca]
def idle : Tsk:=⟨false,Frm.none,[],true⟩
def iw (a b n : Int) : Wrd × Int :=
 if (dx a b).2≠0 then (Wrd.none,(dx a b).2)
 else if n < 1∨5 < n then (Wrd.none,3)
 else (⟨(dx a b).1,List.replicate n.toNat idle⟩,0)
def s78 : Sig:=⟨[.one (.int .i64),.one (.int .i64),.one (.int .i64)],[.agg [.own 52 kS,.own 3 kI,.own 3 kI,.own 3 kI,.int .i64,.own 129 kTo],.one (.int .i64)]⟩
def d78 : DC:=⟨s78,fun _=>True,fun l=>(iw (l.getD 0 .u).int (l.getD 1 .u).int (l.getD 2 .u).int).1.cds ++ [.i (iw (l.getD 0 .u).int (l.getD 1 .u).int (l.getD 2 .u).int).2]⟩
def l78 : List (Nat × Ct):=[(57,d57.ct)]
def z78 : Cx:={ T:=ttA,C:=sigs l78,F:=[],hints:=[],sig:=s78}
def t78 : Tree :=
 (.call 57 [.var 0,.var 1] 3
 (.ite (.not (.eq (.var 8) (.int 0)))
 (.ret [.nil,.nil,.nil,.nil,.int 0,.nil,.var 8])
 (.ite (.lt (.var 2) (.int 1))
 (.ret [.nil,.nil,.nil,.nil,.int 0,.nil,.int 3])
 (.ite (.lt (.int 5) (.var 2))
 (.ret [.nil,.nil,.nil,.nil,.int 0,.nil,.int 3])
 (.need (.le (.int 0) (.var 2))
 (.need (.le (.var 2) (.int 879609302220))
 (.need (.le (.var 2) (.len (.rep (.var 2) (.cons (.bool false) (.cons (.int 0) (.cons (.int 0) (.cons (.int 0) (.cons (.int 0) (.cons (.int 0) (.cons (.int 0) (.cons (.int 0) (.cons (.int 0) (.cons (.int 0) (.cons (.int 0) (.cons (.int 0) (.cons .nil (.cons (.bool false) (.cons (.int 0) (.cons (.own .nil) .row0)))))))))))))))))))
 (.need (.clean (.rep (.var 2) (.cons (.bool false) (.cons (.int 0) (.cons (.int 0) (.cons (.int 0) (.cons (.int 0) (.cons (.int 0) (.cons (.int 0) (.cons (.int 0) (.cons (.int 0) (.cons (.int 0) (.cons (.int 0) (.cons (.int 0) (.cons .nil (.cons (.bool false) (.cons (.int 0) (.cons (.own .nil) .row0))))))))))))))))) 15)
 (.ret [.var 3,.var 4,.var 5,.var 6,.var 7,.take (.var 2) (.rep (.var 2) (.cons (.bool false) (.cons (.int 0) (.cons (.int 0) (.cons (.int 0) (.cons (.int 0) (.cons (.int 0) (.cons (.int 0) (.cons (.int 0) (.cons (.int 0) (.cons (.int 0) (.cons (.int 0) (.cons (.int 0) (.cons .nil (.cons (.bool false) (.cons (.int 0) (.cons (.own .nil) .row0))))))))))))))))),.int 0])))))))))
theorem run78 : run z78 6000 [.code (Try.f78.body.getD .skip),.fin (bt z78 Try.f78.results.toList 50)] { fn:=78,tmps:=z78.sig.aM ++ List.replicate (Try.f78.ntmps - z78.sig.aM.length) (.v (.one .undef)),stk:=[],h:=z78.sig.h0,nx:=z78.sig.ins.length,known:=[]}=t78:=by kernel_rfl
theorem ok78 : cB Try.prog 78 d78.ct:=by
 refine aD (d:=d78) (Z:=z78) (Γ:=gam l78) (fn:=Try.f78) (c:=Try.f78.body.getD .skip) (bg tok mixed (all_cons ok57 all_nil) bh) Try.func78 (by kernel_rfl) (by kernel_rfl) rfl run78 fun E hk hp=>?_
 obtain ⟨hk0,hk1,hk2,_⟩:=hk
 obtain ⟨x,e0⟩:=ok_int (d:=E 0) hk0
 obtain ⟨x2,e1⟩:=ok_int (d:=E 1) hk1
 obtain ⟨x3,e2⟩:=ok_int (d:=E 2) hk2
 have el : aH E d78.sig.ins.length=[.i x,.i x2,.i x3]:=by
  show [E 0,E 1,E 2]=_
  rw [e0,e1,e2]
 rw [el] at hp
 rw [el]
 rw [Env.bJ el]
 clear el e0 e1 e2
 simp only [d78,List.getD_cons_zero,List.getD_cons_succ,CD.aR]
 unfold iw
 unfold t78
 refine ai d57 ((dx x x2).1.cds ++ [.i (dx x x2).2]) rfl trivial (by simp only [nrm,xdn,reduceIte,Nat.reduceLT,Nat.reduceSub,Nat.reduceAdd,d57]) ?_
 generalize dx x x2=r
 refine G0 (fun h=>aj ?_) (fun h=>G0 (fun h1=>aj ?_) (fun h1=>G0 (fun h2=>aj ?_) (fun h2=>?_)))
 ·simp only [nrm,xdn,reduceIte,Nat.reduceLT,Nat.reduceSub,Nat.reduceAdd,Mem.cds,lca] at h ⊢
  rw [if_pos (by simpa using h)];rfl
 ·simp only [nrm,xdn,reduceIte,Nat.reduceLT,Nat.reduceSub,Nat.reduceAdd,Mem.cds,lca] at h h1 ⊢
  rw [if_neg (by simpa using h),if_pos (.inl h1)];rfl
 ·simp only [nrm,xdn,reduceIte,Nat.reduceLT,Nat.reduceSub,Nat.reduceAdd,Mem.cds,lca] at h h2 ⊢
  rw [if_neg (by simpa using h),if_pos (.inr h2)];rfl
 simp only [nrm,xdn,reduceIte,Nat.reduceLT,Nat.reduceSub,Nat.reduceAdd,Mem.cds,lca] at h h1 h2
 rw [if_neg (by simpa using h),if_neg (fun y=>y.elim h1 h2)]
 obtain ⟨k,rfl⟩ : ∃ k : Nat,x3=k:=⟨x3.toNat,by omega⟩
 have hrow : CD.l (List.replicate k [.b false,.i 0,.i 0,.i 0,.i 0,.i 0,.i 0,.i 0,.i 0,.i 0,.i 0,.i 0,.l [],.b false,.i 0,.o []])=az (List.replicate k idle):=by
  simp only [az,List.map_replicate];rfl
 refine ag (by simp only [nrm,xdn,reduceIte,Nat.reduceLT,Nat.reduceSub,Nat.reduceAdd];omega) (ag (by simp only [nrm,xdn,reduceIte,Nat.reduceLT,Nat.reduceSub,Nat.reduceAdd];omega) (ag ?_ (ag ?_ (aj ?_))))
 ·simp only [nrm,xdn,reduceIte,Nat.reduceLT,Nat.reduceSub,Nat.reduceAdd,CD.row,List.headD_cons,Int.toNat_natCast,List.length_replicate,Mem.cds,lca];omega
 ·simp only [nrm,xdn,reduceIte,Nat.reduceLT,Nat.reduceSub,Nat.reduceAdd,CD.row,CD.ax,List.headD_cons,Int.toNat_natCast,Mem.cds,lca]
  exact cls hrow
 ·simp only [nrm,xdn,reduceIte,Nat.reduceLT,Nat.reduceSub,Nat.reduceAdd,CD.row,CD.ax,List.headD_cons,Int.toNat_natCast,Mem.cds,lca,Wrd.cds]
  rw [List.take_of_length_le (by simp),hrow]
def qw (w : Wrd) : List cI × Int:=if bL w≠0 then ([],bL w) else jM w.m
def s134 : Sig:=⟨[.agg [.fz kS,.fz kI,.fz kI,.fz kI,.int .i64,.fz kT]],[.one (.own 78 kW),.one (.int .i64)]⟩
def d134 : DC:=⟨s134,fun _=>True,fun l=>[eM (qw (Wrd.of l)).1,.i (qw (Wrd.of l)).2]⟩
def l134 : List (Nat × Ct):=[(157,d157.ct),(71,d71.ct)]
def z134 : Cx:={ T:=ttA,C:=sigs l134,F:=[],hints:=[],sig:=s134}
def t134 : Tree :=
 (.call 157 [.var 0,.var 1,.var 2,.var 3,.var 4,.var 5] 6
 (.ite (.not (.eq (.var 6) (.int 0)))
 (.ret [.nil,.var 6])
 (.call 71 [.var 0,.var 1,.var 2,.var 3,.var 4] 7
 (.ret [.var 7,.var 8]))))
theorem run134 : run z134 6000 [.code (Try.f134.body.getD .skip),.fin (bt z134 Try.f134.results.toList 50)] { fn:=134,tmps:=z134.sig.aM ++ List.replicate (Try.f134.ntmps - z134.sig.aM.length) (.v (.one .undef)),stk:=[],h:=z134.sig.h0,nx:=z134.sig.ins.length,known:=[]}=t134:=by kernel_rfl
theorem ok134 : cB Try.prog 134 d134.ct:=by
 refine aD (d:=d134) (Z:=z134) (Γ:=gam l134) (fn:=Try.f134) (c:=Try.f134.body.getD .skip) (bg tok mixed (all_cons ok157 (all_cons ok71 all_nil)) bh) Try.func134 (by kernel_rfl) (by kernel_rfl) rfl run134 fun E hk hp=>?_
 obtain ⟨hk0,hk1,hk2,hk3,hk4,hk5,_⟩:=hk
 obtain ⟨m,e0,e1,e2,e3,e4,b0,b1,b2,b3⟩:=cv (d0:=E 0) (d1:=E 1) (d2:=E 2) (d3:=E 3) (d4:=E 4) hk0 hk1 hk2 hk3 hk4
 obtain ⟨ts,e5,hts,b5⟩:=hU (d:=E 5) hk5
 have b5 : ts.length * 160≤140737488355328:=b5
 have el : aH E d134.sig.ins.length=[au m.slots,af m.heads,af m.free,af m.locks,.i m.now,G2 ts]:=by
  show [E 0,E 1,E 2,E 3,E 4,E 5]=_
  rw [e0,e1,e2,e3,e4,e5]
 rw [el] at hp
 rw [el]
 rw [Env.bJ el]
 clear el e0 e1 e2 e3 e4 e5
 have hown : ∀ t∈ts,t.own=false:=fun t ht=>(hts t ht).1
 simp only [d134,kr _ _ _ _ _ hown,aA]
 unfold qw
 unfold t134
 refine ai d157 [.i (bL ⟨m,ts⟩)] rfl trivial (by simp only [nrm,xdn,reduceIte,Nat.reduceLT,Nat.reduceSub,Nat.reduceAdd,d157,kr _ _ _ _ _ hown,aA]) (G0 (fun h=>aj ?_) (fun h=>?_))
 ·simp only [nrm,xdn,reduceIte,Nat.reduceLT,Nat.reduceSub,Nat.reduceAdd] at h ⊢
  rw [if_pos (by simpa using h)];rfl
 simp only [nrm,xdn,reduceIte,Nat.reduceLT,Nat.reduceSub,Nat.reduceAdd] at h
 rw [if_neg (by simpa using h)]
 refine ai d71 [eM (jM m).1,.i (jM m).2] rfl trivial (by simp only [nrm,xdn,reduceIte,Nat.reduceLT,Nat.reduceSub,Nat.reduceAdd,d71,mem_of,aA]) (aj ?_)
 simp only [nrm,xdn,reduceIte,Nat.reduceLT,Nat.reduceSub,Nat.reduceAdd]
end Go.Proofs.Ytpmamacjepcdmaa
