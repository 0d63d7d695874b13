/- An engine for walks: what a region does to blocks of the call's own, whatever order is drawn. An engine for walks, the second part: frames as lists, operations, code. An engine for walks, the third part: what each operation does. -/
import Derived.Still
import Derived.Below
import Derived.Laws.Cells
import Derived.Laws.Rows
import Derived.KernelRfl
import Derived.Laws.Externs
import Derived.Laws.Entries
import Derived.LoopTactic
set_option linter.unusedVariables false
set_option linter.unusedSimpArgs false
namespace Go.Proofs.YtilkebpcjklmfaaGreat.Own
open Go Go.RowKit
set_option maxRecDepth 100000
set_option maxHeartbeats 40000000
abbrev Blk:=Nat×List Value×TypeId
def bobj (b:Blk):Obj:= .cells b.2.1.toArray b.2.2
structure Own (w0:World) (L:List Blk) (w:World):Prop where
 below:Below w0.heap.size w0 w
 base:∀b∈L,w0.heap.size≤b.1
 held:∀b∈L,w.heap[b.1]? =some (bobj b)
 apart:L.Pairwise (fun x y=>x.1≠y.1)
theorem Own.start (w0:World):Own w0 [] w0:=⟨Below.refl _ _,by simp,by simp,by simp⟩
theorem Own.lt {w0 w:World} {L:List Blk} (h:Own w0 L w) {b:Blk} (hb:b∈L):b.1<w.heap.size:=by
 have:=h.held b hb
 exact (Array.getElem?_eq_some_iff.1 this).1
theorem Own.ext {w0 w w':World} {L:List Blk} (h:Own w0 L w) (hb:Below w.heap.size w w'):Own w0 L w':=
 ⟨h.below.trans (hb.mono h.below.size),h.base,fun b hm=>by rw [hb.block b.1 (h.lt hm)];exact h.held b hm,h.apart⟩
theorem Own.drew {w0 w:World} {L:List Blk} (h:Own w0 L w):Own w0 L {w with drawn:=w.drawn+1}:=
 ⟨⟨h.below.os,h.below.tape,h.below.output,h.below.size,h.below.block⟩,h.base,h.held,h.apart⟩
theorem Own.perm {w0 w:World} {L L':List Blk} (p:L.Perm L') (h:Own w0 L w):Own w0 L' w:=
 ⟨h.below,fun b hb=>h.base b (p.mem_iff.2 hb),fun b hb=>h.held b (p.mem_iff.2 hb),(p.pairwise_iff (fun {x y} hxy=>Ne.symm hxy)).1 h.apart⟩
theorem Own.tail {w0 w:World} {b:Blk} {L:List Blk} (h:Own w0 (b::L) w):Own w0 L w:=
 ⟨h.below,fun x hx=>h.base x (.tail _ hx),fun x hx=>h.held x (.tail _ hx),(List.pairwise_cons.1 h.apart).2⟩
theorem Own.new {w0 w:World} {L:List Blk} (h:Own w0 L w) (cs:List Value) (t:TypeId):Own w0 ((w.heap.size,cs,t)::L) (w.alloc (.cells cs.toArray t)):=by
 have hx:Below w.heap.size w (w.alloc (.cells cs.toArray t)):=(Below.refl _ _).alloc (Nat.le_refl _) _
 have h1:=h.ext hx
 refine ⟨h1.below,?_,?_,?_⟩
 ·intro b hb
  rcases List.mem_cons.1 hb with rfl |hb
  ·exact h.below.size
  ·exact h.base b hb
 ·intro b hb
  rcases List.mem_cons.1 hb with rfl |hb
  ·show (w.heap.push _)[w.heap.size]? =_
   simp [bobj]
  ·exact h1.held b hb
 ·refine List.pairwise_cons.2 ⟨fun b hb=> ?_,h.apart⟩
  have:=h.lt hb
  show w.heap.size≠b.1
  omega
theorem ql6 {w0 w w':World} {L LN:List Blk} (h:Own w0 L w) (h':Own w LN w'):Own w0 (LN++L) w':=by
 have h1:=h.ext h'.below
 refine ⟨h1.below,fun b hb=> ?_,fun b hb=> ?_,?_⟩
 ·rcases List.mem_append.1 hb with hb |hb
  ·exact Nat.le_trans h.below.size (h'.base b hb)
  ·exact h.base b hb
 ·rcases List.mem_append.1 hb with hb |hb
  ·exact h'.held b hb
  ·exact h1.held b hb
 ·refine List.pairwise_append.2 ⟨h'.apart,h.apart,fun x hx y hy=> ?_⟩
  have:=h'.base x hx
  have:=h.lt hy
  omega
section
variable (P:Program) (w0:World)
def qhf (w:World) (v:Value):Result Next→Prop
 | .ok (.value u) w'=>w'=w∧u=v
 | .ok .skip w'=>w'=w∧v=undef
 | .ok (.enter f args) w'=>w'=w∧Calls P f args w (fun e w''=>e= .returned v∧Below w.heap.size w w'')
 |_=>False
def QV (o:Oper) (ρ:Operand→Value) (L:List Blk) (v:Value):Prop:=∀w,Own w0 L w→qhf P w v ((execOp ρ o).run P w)
def qfg (o:Oper) (ρ:Operand→Value):Option (Option Nat×List Value×TypeId):=
 match o.op with
 | .alloc t=>((P.info? t).bind (·.zero)).map fun z=>(none,z.cells.toList,t)
 | .box t x=>some (none,(ρ x).cells.toList,t)
 | .buildSlice t len parts=>
  match P.underlying t with
  |some (.slice e)=>
   match P.info? e with
   |some i=>
    if len * i.size>2 ^ 24 then none else
    match i.zero with
    |some z=>(Instr.fill (fun j=>some (j * i.size,i.size)) ((Array.range (len * i.size)).map (z.cells[· % z.cells.size]!)) (parts.map fun (j,x)=>(j,ρ x)).toList).map fun cs=>(some len,cs.toList,e)
    |none=>none
   |none=>none
  |_=>none
 |_=>none
def q10 (k:Option Nat) (g:Nat):Value:=match k with |none=> .pointer (some ⟨g,0,none⟩) |some n=> .slice (some ⟨g,0,none⟩) n n
theorem qxu {o:Oper} {ρ:Operand→Value} {k:Option Nat} {cs:List Value} {t:TypeId} (h:qfg P o ρ=some (k,cs,t)) (w:World):
  (execOp ρ o).run P w= .ok (.value (q10 k w.heap.size)) (w.alloc (.cells cs.toArray t)):=by
 unfold qfg at h
 split at h
 ·rename_i t' ho
  simp only [Option.map_eq_some_iff,Option.bind_eq_some_iff,Prod.mk.injEq] at h
  obtain ⟨z,⟨i,hi,hz⟩,rfl,rfl,rfl⟩:=h
  have hz':(zeroValue t').run P w= .ok z w:=by simp [zeroValue,typeInfo,hi,hz,go_sem]
  simp only [execOp,ho,Instr.alloc,Sem.run_bind,hz',Result.andThen_ok]
  rfl
 ·rename_i t' x ho
  simp only [Option.some.injEq,Prod.mk.injEq] at h
  obtain ⟨rfl,rfl,rfl⟩:=h
  simp only [execOp,ho,Instr.box]
  rfl
 ·rename_i t' len parts ho
  split at h
  ·rename_i e hu
   split at h
   ·rename_i i hi
    split at h
    ·cases h
    ·rename_i hsz
     split at h
     ·rename_i z hz
      simp only [Option.map_eq_some_iff,Prod.mk.injEq] at h
      obtain ⟨cs',hf,rfl,rfl,rfl⟩:=h
      have hu':(underlying t').run P w= .ok (.slice e) w:=by simp [underlying,hu,go_sem]
      have hs':(sizeOf e).run P w= .ok i.size w:=by simp [sizeOf,typeInfo,hi,go_sem]
      have hz':(zeroValue e).run P w= .ok z w:=by simp [zeroValue,typeInfo,hi,hz,go_sem]
      have h1:¬len * i.size>2 ^ 24:=hsz
      by_cases h2:len * i.size=0
      ·have e0:(Array.range (len * i.size)).map ((#[]:Array Value)[· % (#[]:Array Value).size]!)=(Array.range (len * i.size)).map (z.cells[· % z.cells.size]!):=by rw [h2];simp
       have hx:¬(0:Nat)>2 ^ 24:=by decide
       simp only [execOp,ho,Instr.buildSlice,Sem.run_bind,hu',hs',Result.andThen_ok,h2,hx,if_false,if_true,Sem.run_pure]
       rw [h2] at e0 hf
       rw [e0,hf]
       rfl
      ·simp only [execOp,ho,Instr.buildSlice,Sem.run_bind,hu',hs',Result.andThen_ok,h1,if_false,h2,hz',Sem.run_pure,hf]
       rfl
     ·cases h
   ·cases h
  ·cases h
 ·cases h
def qir (R:Value→List Blk→Prop):Result Next→Prop
 | .ok (.value u) w'=>∃L',R u L'∧Own w0 L' w'
 | .ok .skip w'=>∃L',R undef L'∧Own w0 L' w'
 | .ok (.enter f args) w'=>Calls P f args w' (fun e w''=>∃v L',e= .returned v∧R v L'∧Own w0 L' w'')
 |_=>False
def EV (o:Oper) (ρ:Operand→Value) (L:List Blk) (R:Value→List Blk→Prop):Prop:=∀w,Own w0 L w→qir P w0 R ((execOp ρ o).run P w)
inductive Kind where
 |pure |base |quiet |alloc |eff0 |eff |fresh
 deriving DecidableEq
def Kind.lets:Kind→Kind→Bool
 | .pure,_=>true
 | .base,.eff=>false
 | .base,_=>true
 | .quiet,.eff | .quiet,.eff0=>false
 | .quiet,_=>true
 | .alloc,.alloc=>true
 | .fresh,.alloc=>true
 |_,_=>false
def VK (L0:List Blk) (k:Kind) (o:Oper) (ρ:Operand→Value) (L:List Blk) (v:Value):Prop:=
 match k with
 | .pure=>∀L,QV P w0 o ρ L v
 | .base=>(∀b∈L0,b∈L)∧∀M,(∀b∈L0,b∈M)→QV P w0 o ρ M v
 |_=>QV P w0 o ρ L v
def qob (w:World) (R:Value→List Blk→Prop):Result Next→Prop
 | .ok (.value u) w'=>∃LN,R u LN∧Own w LN w'
 | .ok .skip w'=>∃LN,R undef LN∧Own w LN w'
 | .ok (.enter f args) w'=>Calls P f args w' (fun e w''=>∃v LN,e= .returned v∧R v LN∧Own w LN w'')
 |_=>False
def FV (o:Oper) (ρ:Operand→Value) (L:List Blk) (R:Value→List Blk→Prop):Prop:=∀w,Own w0 L w→qob P w R ((execOp ρ o).run P w)
def opK (L0:List Blk) (k:Kind) (o:Oper) (a:Act) (L:List Blk) (K:Act→List Blk→Prop):Prop:=
 match k with
 | .alloc=>∃k cs t,qfg P o a.eval=some (k,cs,t)∧∀g,K (a.put o.dst (q10 k g)) ((g,cs,t)::L)
 | .eff0=>∃R,EV P w0 o a.eval L R∧(∀v L',R v L'→∀b∈L0,b∈L')∧∀v L',R v L'→K (a.put o.dst v) L'
 | .eff=>∃R,EV P w0 o a.eval L R∧∀v L',R v L'→K (a.put o.dst v) L'
 | .fresh=>∃R,FV P w0 o a.eval L R∧(∃v LN,R v LN)∧∀v LN,R v LN→K (a.put o.dst v) (LN++L)
 |k=>∃v,VK P w0 L0 k o a.eval L v∧K (a.put o.dst v) L
def lexW (L0:List Blk) (ops:Array Oper) (K:Act→List Blk→Prop):List (Kind×Oper)→Act→List Blk→Prop
 |[],a,L=>K a L
 |(k,o)::rest,a,L=>if Region.wanted o (yielded ops a.tmps) then opK P w0 L0 k o a L (lexW L0 ops K rest) else lexW L0 ops K rest (a.put o.dst undef) L
def mOp (L0:List Blk) (ops:Array Oper) (k:Kind) (i:Nat) (K:Act→List Blk→Prop) (a:Act) (L:List Blk):Prop:=
 match ops[i]? with
 |none=>K a L
 |some o=>if Region.wanted o (yielded ops a.tmps) then opK P w0 L0 k o a L K else K (a.put o.dst undef) L
def wpM (L0:List Blk) (ops:Array Oper) (κ:Nat→Kind) (Q:Act→List Blk→Prop):Nat→Array Bool→Act→List Blk→Prop
 |0,listed,a,L=>Region.ready .any ops listed=[]∧Q a L
 |f+1,listed,a,L=>(Region.ready .any ops listed=[]→Q a L)∧∀i∈Region.ready .any ops listed,mOp P w0 L0 ops (κ i) i (wpM L0 ops κ Q f (listed.setIfInBounds i true)) a L
end
section
variable {P:Program} {w0:World} {L0:List Blk} {ops:Array Oper}
theorem qld {k:Kind} {o:Oper} {a:Act} {L:List Blk} {K K':Act→List Blk→Prop} (h:∀a L,K a L→K' a L) (hh:opK P w0 L0 k o a L K):opK P w0 L0 k o a L K':=by
 cases k
 case alloc=>obtain ⟨q,cs,t,h1,h2⟩:=hh;exact ⟨q,cs,t,h1,fun g=>h _ _ (h2 g)⟩
 case eff0=>obtain ⟨R,h1,h2,h3⟩:=hh;exact ⟨R,h1,h2,fun v L' hr=>h _ _ (h3 v L' hr)⟩
 case eff=>obtain ⟨R,h1,h2⟩:=hh;exact ⟨R,h1,fun v L' hr=>h _ _ (h2 v L' hr)⟩
 case fresh=>obtain ⟨R,h1,h0,h2⟩:=hh;exact ⟨R,h1,h0,fun v L' hr=>h _ _ (h2 v L' hr)⟩
 all_goals (obtain ⟨v,h1,h2⟩:=hh;exact ⟨v,h1,h _ _ h2⟩)
theorem qrs {k:Kind} {i:Nat} {a:Act} {L:List Blk} {K K':Act→List Blk→Prop} (h:∀a L,K a L→K' a L) (hh:mOp P w0 L0 ops k i K a L):mOp P w0 L0 ops k i K' a L:=by
 unfold mOp at *
 split
 ·rename_i ho;simp only [ho] at hh;exact h _ _ hh
 ·rename_i o ho
  simp only [ho] at hh
  split
  ·rename_i hw;simp only [hw,if_true] at hh;exact qld h hh
  ·rename_i hw;simp only [hw] at hh;exact h _ _ hh
theorem QV.cons {o:Oper} {ρ:Operand→Value} {L:List Blk} {v:Value} (h:QV P w0 o ρ L v) (b:Blk):QV P w0 o ρ (b::L) v:=fun w hw=>h w hw.tail
theorem VK.cons {k:Kind} {o:Oper} {ρ:Operand→Value} {L:List Blk} {v:Value} (h:VK P w0 L0 k o ρ L v) (b:Blk):VK P w0 L0 k o ρ (b::L) v:=by
 cases k
 case pure=>exact h
 case base=>exact ⟨fun x hx=> .tail _ (h.1 x hx),h.2⟩
 all_goals exact QV.cons h b
theorem VK.perm {k:Kind} {o:Oper} {ρ:Operand→Value} {L L':List Blk} {v:Value} (p:L.Perm L') (h:VK P w0 L0 k o ρ L v):VK P w0 L0 k o ρ L' v:=by
 cases k
 case pure=>exact h
 case base=>exact ⟨fun x hx=>p.mem_iff.1 (h.1 x hx),h.2⟩
 all_goals exact fun w hw=>h w (hw.perm p.symm)
theorem VK.qv {k:Kind} {o:Oper} {ρ:Operand→Value} {L:List Blk} {v:Value} (h:VK P w0 L0 k o ρ L v):QV P w0 o ρ L v:=by
 cases k
 case pure=>exact h L
 case base=>exact h.2 L h.1
 all_goals exact h
theorem zmi {k:Kind} {o:Oper} {a:Act} {L L':List Blk} {K K':Act→List Blk→Prop} (p:L.Perm L')
  (h:∀a M M',M.Perm M'→K a M→K' a M') (hh:opK P w0 L0 k o a L K):opK P w0 L0 k o a L' K':=by
 cases k
 case alloc=>obtain ⟨q,cs,t,h1,h2⟩:=hh;exact ⟨q,cs,t,h1,fun g=>h _ _ _ (p.cons _) (h2 g)⟩
 case eff0=>obtain ⟨R,h1,h2,h3⟩:=hh;exact ⟨R,fun w hw=>h1 w (hw.perm p.symm),h2,fun v M hr=>h _ _ _ (List.Perm.refl _) (h3 v M hr)⟩
 case eff=>obtain ⟨R,h1,h2⟩:=hh;exact ⟨R,fun w hw=>h1 w (hw.perm p.symm),fun v M hr=>h _ _ _ (List.Perm.refl _) (h2 v M hr)⟩
 case fresh=>obtain ⟨R,h1,h0,h2⟩:=hh;exact ⟨R,fun w hw=>h1 w (hw.perm p.symm),h0,fun v LN hr=>h _ _ _ (List.Perm.append_left LN p) (h2 v LN hr)⟩
 all_goals (obtain ⟨v,h1,h2⟩:=hh;exact ⟨v,h1.perm p,h _ _ _ p h2⟩)
theorem zm0 {k:Kind} {i:Nat} {a:Act} {L L':List Blk} {K K':Act→List Blk→Prop} (p:L.Perm L')
  (h:∀a M M',M.Perm M'→K a M→K' a M') (hh:mOp P w0 L0 ops k i K a L):mOp P w0 L0 ops k i K' a L':=by
 unfold mOp at *
 split
 ·rename_i ho;simp only [ho] at hh;exact h _ _ _ p hh
 ·rename_i o ho
  simp only [ho] at hh
  split
  ·rename_i hw;simp only [hw,if_true] at hh;exact zmi p h hh
  ·rename_i hw;simp only [hw] at hh;exact h _ _ _ p hh
theorem qq_ {κ:Nat→Kind} {Q:Act→List Blk→Prop} (hQ:∀a M M',M.Perm M'→Q a M→Q a M'):∀(f:Nat) (listed:Array Bool) (a:Act) (L L':List Blk),L.Perm L'→
  wpM P w0 L0 ops κ Q f listed a L→wpM P w0 L0 ops κ Q f listed a L'
 |0,_,_,_,_,p,h=>⟨h.1,hQ _ _ _ p h.2⟩
 |f+1,_,_,_,_,p,h=>⟨fun h0=>hQ _ _ _ p (h.1 h0),fun i hi=>zm0 p (fun a M M' q hm=>qq_ hQ f _ a M M' q hm) (h.2 i hi)⟩
theorem q7x {k:Kind} {o:Oper} {a:Act} {L:List Blk} {K:Act→List Blk→Prop} {K':Act→World→Prop} {Q':Exit→Act→World→Prop} {w:World} (hw:Own w0 L w)
  (h:∀a L w',Own w0 L w'→K a L→K' a w') (hh:opK P w0 L0 k o a L K):o.wp P a w K' Q':=by
 unfold Oper.wp
 have val:∀v,QV P w0 o a.eval L v→K (a.put o.dst v) L→o.upon P a K' Q' ((execOp a.eval o).run P w):=by
  intro v h1 h2
  have h3:=h1 w hw
  generalize (execOp a.eval o).run P w=r at *
  cases r with
  |ok n w'=>
   cases n<;>simp only [qhf] at h3<;>simp only [Oper.upon]
   case value u=>obtain ⟨rfl,rfl⟩:=h3;exact h _ _ _ hw h2
   case skip=>obtain ⟨rfl,rfl⟩:=h3;exact h _ _ _ hw h2
   case enter f args=>
    obtain ⟨rfl,hc⟩:=h3
    exact hc.mono fun e w'' ⟨he,hb⟩=>by subst he;exact h _ _ _ (hw.ext hb) h2
  |halt x w'=>simp only [qhf] at h3
 have ef:∀R,EV P w0 o a.eval L R→(∀v L',R v L'→K (a.put o.dst v) L')→o.upon P a K' Q' ((execOp a.eval o).run P w):=by
  intro R h1 h2
  have h3:=h1 w hw
  generalize (execOp a.eval o).run P w=r at *
  cases r with
  |ok n w'=>
   cases n<;>simp only [qir] at h3<;>simp only [Oper.upon]
   case value u=>obtain ⟨L',hr,ho⟩:=h3;exact h _ _ _ ho (h2 _ _ hr)
   case skip=>obtain ⟨L',hr,ho⟩:=h3;exact h _ _ _ ho (h2 _ _ hr)
   case enter f args=>
    exact h3.mono fun e w'' ⟨v,L',he,hr,ho⟩=>by subst he;exact h _ _ _ ho (h2 _ _ hr)
  |halt x w'=>simp only [qir] at h3
 cases k
 case alloc=>
  obtain ⟨q,cs,t,h1,h2⟩:=hh
  rw [qxu P h1 w]
  exact h _ _ _ (hw.new cs t) (h2 _)
 case eff0=>obtain ⟨R,h1,_,h2⟩:=hh;exact ef R h1 h2
 case eff=>obtain ⟨R,h1,h2⟩:=hh;exact ef R h1 h2
 case fresh=>
  obtain ⟨R,h1,_,h2⟩:=hh
  have h3:=h1 w hw
  generalize (execOp a.eval o).run P w=r at *
  cases r with
  |ok n w'=>
   cases n<;>simp only [qob] at h3<;>simp only [Oper.upon]
   case value u=>obtain ⟨LN,hr,ho⟩:=h3;exact h _ _ _ (ql6 hw ho) (h2 _ _ hr)
   case skip=>obtain ⟨LN,hr,ho⟩:=h3;exact h _ _ _ (ql6 hw ho) (h2 _ _ hr)
   case enter f args=>
    exact h3.mono fun e w'' ⟨v,LN,he,hr,ho⟩=>by subst he;exact h _ _ _ (ql6 hw ho) (h2 _ _ hr)
  |halt x w'=>simp only [qob] at h3
 all_goals (obtain ⟨v,h1,h2⟩:=hh;exact val v h1.qv h2)
theorem qpe {k:Kind} {i:Nat} {a:Act} {L:List Blk} {K:Act→List Blk→Prop} {K':Act→World→Prop} {Q':Exit→Act→World→Prop} {w:World} (hw:Own w0 L w)
  (h:∀a L w',Own w0 L w'→K a L→K' a w') (hh:mOp P w0 L0 ops k i K a L):wpOp P ops Q' i K' a w:=by
 unfold mOp at hh
 unfold wpOp
 split
 ·rename_i ho;simp only [ho] at hh;exact h _ _ _ hw hh
 ·rename_i o ho
  simp only [ho] at hh
  split
  ·rename_i hq;simp only [hq,if_true] at hh;exact .inl (q7x hw h hh)
  ·rename_i hq;simp only [hq] at hh;exact h _ _ _ hw hh
theorem qm_ {κ:Nat→Kind} {Q:Act→List Blk→Prop} {Q':Exit→Act→World→Prop} (hQ:∀a L w,Own w0 L w→Q a L→Q' .normal a w):∀(f:Nat) (listed:Array Bool) (a:Act) (L:List Blk) (w:World),Own w0 L w→
  wpM P w0 L0 ops κ Q f listed a L→wpAny P .any ops Q' f listed a w
 |0,_,_,_,_,hw,h=>⟨h.1,hQ _ _ _ hw h.2⟩
 |f+1,_,_,_,_,hw,h=>⟨fun h0=>hQ _ _ _ hw (h.1 h0),fun i hi=>qpe hw (fun a' L' w' hw'=>qm_ hQ f _ a' L' w' hw') (h.2 i hi)⟩
def YQ (P:Program) (w0:World) (L0:List Blk) (ops:Array Oper) (k:Kind) (o:Oper) (v:Value) (a:Act) (L:List Blk):Prop:=
 (Region.wanted o (yielded ops a.tmps)=true∧VK P w0 L0 k o a.eval L v)∨(Region.wanted o (yielded ops a.tmps)=false∧v=undef)
def Kind.val:Kind→Bool | .pure | .base | .quiet=>true |_=>false
theorem YQ.mOp {k:Kind} (hk:k.val=true) {i:Nat} {o:Oper} {v:Value} {a:Act} {L:List Blk} (hi:ops[i]? =some o) (hy:YQ P w0 L0 ops k o v a L) {K:Act→List Blk→Prop} (h:K (a.put o.dst v) L):mOp P w0 L0 ops k i K a L:=by
 unfold Own.mOp
 simp only [hi]
 rcases hy with ⟨hw,hv⟩ |⟨hw,rfl⟩
 ·simp only [hw,if_true]
  cases k<;>simp [Kind.val] at hk<;>exact ⟨v,hv,h⟩
 ·simp only [hw,Bool.false_eq_true,if_false];exact h
theorem zo5 {k:Kind} {oi:Oper} {a:Act} {L:List Blk} {v:Value} (hsi:∀cs b,oi.op≠.select cs b) (d:Option Tmp) (u:Value) (h3:∀x,d=some x→x∉oi.looksAt ops):
  VK P w0 L0 k oi (a.put d u).eval L v=VK P w0 L0 k oi a.eval L v:=by
 unfold VK QV
 rw [execOp_put oi hsi a d u h3]
theorem YQ.put {k:Kind} {oi oj:Oper} {v:Value} {a:Act} {L:List Blk} (hsi:∀cs b,oi.op≠.select cs b) (h3:∀d,oj.dst=some d→d∉oi.looksAt ops) (hy:YQ P w0 L0 ops k oi v a L) (u:Value):YQ P w0 L0 ops k oi v (a.put oj.dst u) L:=by
 unfold YQ at *
 rw [zo5 hsi oj.dst u h3,wanted_put oi a oj.dst u h3]
 exact hy
theorem YQ.cons {k:Kind} {o:Oper} {v:Value} {a:Act} {L:List Blk} (hy:YQ P w0 L0 ops k o v a L) (b:Blk):YQ P w0 L0 ops k o v a (b::L):=by
 rcases hy with ⟨h1,h2⟩ |h
 ·exact .inl ⟨h1,h2.cons b⟩
 ·exact .inr h
theorem YQ.app {k:Kind} {o:Oper} {v:Value} {a:Act} {L:List Blk} (hy:YQ P w0 L0 ops k o v a L):∀(LN:List Blk),YQ P w0 L0 ops k o v a (LN++L)
 |[]=>hy
 |b::LN=>(YQ.app hy LN).cons b
theorem YQ.turn {k kj:Kind} (hl:k.lets kj=true) (hj:kj= .eff∨kj= .eff0) {o:Oper} {v:Value} {a:Act} {L L':List Blk} (h0:kj= .eff0→∀b∈L0,b∈L') (hy:YQ P w0 L0 ops k o v a L):YQ P w0 L0 ops k o v a L':=by
 rcases hy with ⟨h1,h2⟩ |h
 ·refine .inl ⟨h1,?_⟩
  cases k
  case pure=>exact h2
  case base=>
   rcases hj with rfl |rfl
   ·simp [Kind.lets] at hl
   ·exact ⟨h0 rfl,h2.2⟩
  all_goals (rcases hj with rfl |rfl<;>simp [Kind.lets] at hl)
 ·exact .inr h
theorem qhd {oj:Oper} (a:Act) (d:Option Tmp) (u:Value) (h:∀x,d=some x→x∉oj.looksAt ops):qfg P oj (a.put d u).eval=qfg P oj a.eval:=by
 unfold qfg
 split
 ·rfl
 ·rename_i t x ho
  have:(a.put d u).eval x=a.eval x:=Act.eval_put fun d' hd hx=>h d' hd (by
   subst hx
   exact List.mem_append_left _ (List.mem_filterMap.2 ⟨.tmp d',by simp [ho,Op.operands],rfl⟩))
  rw [this]
 ·rename_i t len parts ho
  have:(parts.map fun (x:Nat×Operand)=>(x.1,(a.put d u).eval x.2))=(parts.map fun (x:Nat×Operand)=>(x.1,a.eval x.2)):=by
   apply Array.map_congr_left
   intro p hp
   have:(a.put d u).eval p.2=a.eval p.2:=Act.eval_put fun d' hd hx=>h d' hd (by
    refine List.mem_append_left _ (List.mem_filterMap.2 ⟨.tmp d',?_,rfl⟩)
    simp only [ho,Op.operands,List.mem_map,Array.mem_toList_iff]
    exact ⟨p,hp,hx⟩)
   rw [this]
  rw [this]
 ·rfl
theorem zsw {j:Nat} {k kj:Kind} {oi oj:Oper} {v:Value} (hl:k.lets kj=true) (hj:ops[j]? =some oj) (hap:oi.apart ops oj=true)
  (hsi:∀cs b,oi.op≠.select cs b) (hsj:∀cs b,oj.op≠.select cs b) {K:Act→List Blk→Prop} {a:Act} {L:List Blk}
  (hy:YQ P w0 L0 ops k oi v a L) (h:mOp P w0 L0 ops kj j K (a.put oi.dst v) L):
  mOp P w0 L0 ops kj j (fun a' L'=>YQ P w0 L0 ops k oi v a' L'∧K (a'.put oi.dst v) L') a L:=by
 obtain ⟨h1,h2,h3⟩:=Oper.apart_spec hap
 unfold Own.mOp at *
 simp only [hj] at *
 rw [wanted_put oj a oi.dst v h1] at h
 split
 ·rename_i hw
  simp only [hw,if_true] at h
  have val:(∃u,VK P w0 L0 kj oj (a.put oi.dst v).eval L u∧K ((a.put oi.dst v).put oj.dst u) L)→∃u,VK P w0 L0 kj oj a.eval L u∧(YQ P w0 L0 ops k oi v (a.put oj.dst u) L∧K ((a.put oj.dst u).put oi.dst v) L):=by
   rintro ⟨u,hu,hn⟩
   rw [zo5 hsj oi.dst v h1] at hu
   exact ⟨u,hu,hy.put hsi h3 u,by rw [←Act.put_comm a v u h2];exact hn⟩
  have hev:∀R,EV P w0 oj (a.put oi.dst v).eval L R→EV P w0 oj a.eval L R:=fun R he=>by
   unfold EV at *
   rwa [execOp_put oj hsj a oi.dst v h1] at he
  cases kj
  case alloc=>
   obtain ⟨q,cs,t,hu,hn⟩:=h
   rw [qhd a oi.dst v h1] at hu
   refine ⟨q,cs,t,hu,fun g=>⟨(hy.put hsi h3 _).cons _,?_⟩⟩
   rw [←Act.put_comm a v _ h2];exact hn g
  case eff0=>
   obtain ⟨R,he,h0,hn⟩:=h
   refine ⟨R,hev R he,h0,fun u L' hr=>⟨(hy.put hsi h3 u).turn hl (.inr rfl) (fun _=>h0 u L' hr),?_⟩⟩
   rw [←Act.put_comm a v u h2];exact hn u L' hr
  case eff=>
   obtain ⟨R,he,hn⟩:=h
   refine ⟨R,hev R he,fun u L' hr=>⟨(hy.put hsi h3 u).turn hl (.inl rfl) (fun e=>by cases e),?_⟩⟩
   rw [←Act.put_comm a v u h2];exact hn u L' hr
  case fresh=>
   obtain ⟨R,he,h0,hn⟩:=h
   refine ⟨R,by unfold FV at *;rwa [execOp_put oj hsj a oi.dst v h1] at he,h0,fun u LN hr=>⟨(hy.put hsi h3 u).app LN,?_⟩⟩
   rw [←Act.put_comm a v u h2];exact hn u LN hr
  all_goals exact val h
 ·rename_i hw
  simp only [hw] at h
  exact ⟨hy.put hsi h3 _,by rw [←Act.put_comm a v undef h2];exact h⟩
theorem zf5 {i:Nat} {oj:Oper} {listed:Array Bool} (hr:i∈Region.ready .any ops listed) (hall:∀e∈oj.after,Region.binds .any e=true→listed.getD e.on false=true):
  ∀e∈oj.after,Region.binds .any e=true→e.on≠i:=fun e he hb heq=>by
 have h1:=hall e he hb
 have h0:=(mem_ready.1 hr).1
 rw [heq] at h1
 rcases Nat.lt_or_ge i listed.size with h' |h'
 ·simp [h'] at h0 h1;rw [h0] at h1;cases h1
 ·simp [Array.getElem?_eq_none h'] at h1
theorem qqa {κ:Nat→Kind} {Q:Act→List Blk→Prop} {i:Nat} {oi:Oper} {v:Value} (hk:(κ i).val=true) (hi:ops[i]? =some oi) (hsel:∀(j:Nat) (o:Oper) cs b,ops[j]? =some o→o.op≠.select cs b) (B:Nat→Bool) (hB:∀j oj,ops[j]? =some oj→B j=true→∃e∈oj.after,Region.binds .any e=true∧(e.on=i∨B e.on=true)):
  ∀(fuel:Nat) (listed:Array Bool) (a:Act) (L:List Blk),
   (∀j oj,ops[j]? =some oj→j≠i→listed.getD j true=false→B j=false→oi.apart ops oj=true∧(κ i).lets (κ j)=true)→(∀k,listed.getD k false=true→B k=false)→
   i∈Region.ready .any ops listed→YQ P w0 L0 ops (κ i) oi v a L→
   wpM P w0 L0 ops κ Q fuel (listed.setIfInBounds i true) (a.put oi.dst v) L→wpM P w0 L0 ops κ Q (fuel+1) listed a L:=by
 intro fuel
 induction fuel with
 |zero=>
  intro listed a L _ _ hr hy H
  refine ⟨fun h=>(by rw [h] at hr;cases hr),fun j hj=> ?_⟩
  by_cases hji:j=i
  ·subst hji;exact hy.mOp hk hi H
  ·have:=ready_mono hj hji
   rw [H.1] at this
   cases this
 |succ fuel ih=>
  intro listed a L hfree hinv hr hy H
  refine ⟨fun h=>(by rw [h] at hr;cases hr),fun j hj=> ?_⟩
  by_cases hji:j=i
  ·subst hji;exact hy.mOp hk hi H
  ·have h1:=H.2 j (ready_mono hj hji)
   obtain ⟨hjun,oj,hoj,hall⟩:=mem_ready.1 hj
   have hnot:=zf5 (i:=i) hr hall
   have hBj:B j=false:=by
    rw [Bool.eq_false_iff];intro hb
    obtain ⟨e,he,hbd,h1 |h1⟩:=hB j oj hoj hb
    ·exact hnot e he hbd h1
    ·rw [hinv e.on (hall e he hbd)] at h1;cases h1
   have hinv':∀k,(listed.setIfInBounds j true).getD k false=true→B k=false:=by
    intro k hk'
    by_cases hjk:j=k
    ·subst hjk;exact hBj
    ·rw [getD_set_ne false hjk] at hk';exact hinv k hk'
   obtain ⟨hap,hke⟩:=hfree j oj hoj hji hjun hBj
   have h2:=zsw hke hoj hap (fun cs b=>hsel i oi cs b hi) (fun cs b=>hsel j oj cs b hoj) hy h1
   refine qrs (fun a' L' h3=>ih (listed.setIfInBounds j true) a' L' ?_ hinv' (ready_mono hr (Ne.symm hji)) h3.1 ?_) h2
   ·intro k ok hok hki hun hno
    refine hfree k ok hok hki ?_ hno
    by_cases hjk:j=k
    ·subst hjk;exact hjun
    ·rw [getD_set_ne true hjk] at hun;exact hun
   ·rw [Array.setIfInBounds_comm _ _ hji]
    exact h3.2
theorem q5v {κ:Nat→Kind} {Q:Act→List Blk→Prop} (hQ:∀a M M',M.Perm M'→Q a M→Q a M') {i:Nat} {oi:Oper} (hk:κ i= .alloc) (hi:ops[i]? =some oi) (B:Nat→Bool) (hB:∀j oj,ops[j]? =some oj→B j=true→∃e∈oj.after,Region.binds .any e=true∧(e.on=i∨B e.on=true)):
  ∀(fuel:Nat) (listed:Array Bool) (a:Act) (L:List Blk),
   (∀j oj,ops[j]? =some oj→j≠i→listed.getD j true=false→B j=false→oi.apart ops oj=true∧κ j= .alloc)→(∀k,listed.getD k false=true→B k=false)→
   i∈Region.ready .any ops listed→
   mOp P w0 L0 ops .alloc i (wpM P w0 L0 ops κ Q fuel (listed.setIfInBounds i true)) a L→wpM P w0 L0 ops κ Q (fuel+1) listed a L:=by
 intro fuel
 induction fuel with
 |zero=>
  intro listed a L hfree hinv hr H
  refine ⟨fun h=>(by rw [h] at hr;cases hr),fun j hj=> ?_⟩
  by_cases hji:j=i
  ·subst hji;rw [hk];exact H
  ·exfalso
   have hm:=ready_mono hj hji
   unfold Own.mOp at H
   simp only [hi] at H
   split at H
   ·obtain ⟨q,cs,t,_,h2⟩:=H
    have:=(h2 0).1
    rw [this] at hm;cases hm
   ·rw [H.1] at hm;cases hm
 |succ fuel ih=>
  intro listed a L hfree hinv hr H
  refine ⟨fun h=>(by rw [h] at hr;cases hr),fun j hj=> ?_⟩
  by_cases hji:j=i
  ·subst hji;rw [hk];exact H
  ·obtain ⟨hjun,oj,hoj,hall⟩:=mem_ready.1 hj
   have hnot:=zf5 (i:=i) hr hall
   have hBj:B j=false:=by
    rw [Bool.eq_false_iff];intro hb
    obtain ⟨e,he,hbd,h1 |h1⟩:=hB j oj hoj hb
    ·exact hnot e he hbd h1
    ·rw [hinv e.on (hall e he hbd)] at h1;cases h1
   have hinv':∀k,(listed.setIfInBounds j true).getD k false=true→B k=false:=by
    intro k hk'
    by_cases hjk:j=k
    ·subst hjk;exact hBj
    ·rw [getD_set_ne false hjk] at hk';exact hinv k hk'
   obtain ⟨hap,hke⟩:=hfree j oj hoj hji hjun hBj
   obtain ⟨a1,a2,a3⟩:=Oper.apart_spec hap
   have hrm:=ready_mono hj hji
   rw [hke]
   have hfree':∀k ok,ops[k]? =some ok→k≠i→(listed.setIfInBounds j true).getD k true=false→B k=false→oi.apart ops ok=true∧κ k= .alloc:=by
    intro k ok hok hki hun hno
    refine hfree k ok hok hki ?_ hno
    by_cases hjk:j=k
    ·subst hjk;exact hjun
    ·rw [getD_set_ne true hjk] at hun;exact hun
   have hr':=ready_mono hr (Ne.symm hji)
   unfold Own.mOp at H
   simp only [hi] at H
   have key:∀(x:Value) (M:List Blk),wpM P w0 L0 ops κ Q (fuel+1) (listed.setIfInBounds i true) (a.put oi.dst x) M→mOp P w0 L0 ops .alloc j (fun a' L'=>wpM P w0 L0 ops κ Q fuel ((listed.setIfInBounds i true).setIfInBounds j true) (a'.put oi.dst x) L') a M:=by
    intro x M hx
    have h1:=hx.2 j hrm
    rw [hke] at h1
    unfold Own.mOp at h1 ⊢
    simp only [hoj] at h1 ⊢
    rw [wanted_put oj a oi.dst x a1] at h1
    split
    ·rename_i hw
     simp only [hw,if_true] at h1
     obtain ⟨q,cs,t,hu,hn⟩:=h1
     rw [qhd a oi.dst x a1] at hu
     exact ⟨q,cs,t,hu,fun g=>by
      show wpM P w0 L0 ops κ Q fuel _ ((a.put oj.dst _).put oi.dst x) _
      rw [←Act.put_comm a x _ a2];exact hn g⟩
    ·rename_i hw
     simp only [hw] at h1
     show wpM P w0 L0 ops κ Q fuel _ _ _
     rw [←Act.put_comm a x undef a2];exact h1
   by_cases hwi:Region.wanted oi (yielded ops a.tmps)=true
   ·simp only [hwi,if_true] at H
    obtain ⟨qi,csi,ti,hui,hni⟩:=H
    have hk2:=fun g=>key _ _ (hni g)
    unfold Own.mOp at hk2 ⊢
    simp only [hoj] at hk2 ⊢
    split
    ·rename_i hw
     simp only [hw,if_true] at hk2
     obtain ⟨q,cs,t,hu,_⟩:=hk2 0
     refine ⟨q,cs,t,hu,fun gj=>ih _ _ _ hfree' hinv' hr' ?_⟩
     unfold Own.mOp
     simp only [hi]
     rw [wanted_put oi a oj.dst _ a3]
     simp only [hwi,if_true]
     refine ⟨qi,csi,ti,by rw [qhd a oj.dst _ a3];exact hui,fun gi=> ?_⟩
     obtain ⟨q',cs',t',hu',hn'⟩:=hk2 gi
     rw [hu] at hu'
     simp only [Option.some.injEq,Prod.mk.injEq] at hu'
     obtain ⟨rfl,rfl,rfl⟩:=hu'
     have:=hn' gj
     rw [Array.setIfInBounds_comm _ _ hji]
     exact qq_ hQ _ _ _ _ _ (List.Perm.swap _ _ _) this
    ·rename_i hw
     simp only [hw] at hk2
     refine ih _ _ _ hfree' hinv' hr' ?_
     unfold Own.mOp
     simp only [hi]
     rw [wanted_put oi a oj.dst _ a3]
     simp only [hwi,if_true]
     refine ⟨qi,csi,ti,by rw [qhd a oj.dst _ a3];exact hui,fun gi=> ?_⟩
     have:=hk2 gi
     rw [Array.setIfInBounds_comm _ _ hji]
     exact this
   ·simp only [hwi] at H
    have hk2:=key _ _ H
    refine qrs (fun a' L' h3=> ?_) (show mOp P w0 L0 ops .alloc j (fun a' L'=>Region.wanted oi (yielded ops a'.tmps)=false∧wpM P w0 L0 ops κ Q fuel ((listed.setIfInBounds i true).setIfInBounds j true) (a'.put oi.dst undef) L') a L from ?_)
    ·refine ih _ _ _ hfree' hinv' hr' ?_
     unfold Own.mOp
     simp only [hi,h3.1,Bool.false_eq_true,if_false]
     rw [Array.setIfInBounds_comm _ _ hji]
     exact h3.2
    ·have hwf:Region.wanted oi (yielded ops a.tmps)=false:=by simpa using hwi
     unfold Own.mOp at hk2 ⊢
     simp only [hoj] at hk2 ⊢
     split
     ·rename_i hw
      simp only [hw,if_true] at hk2
      obtain ⟨q,cs,t,hu,hn⟩:=hk2
      exact ⟨q,cs,t,hu,fun g=>⟨by rw [wanted_put oi a oj.dst _ a3];exact hwf,hn g⟩⟩
     ·rename_i hw
      simp only [hw] at hk2
      exact ⟨by rw [wanted_put oi a oj.dst _ a3];exact hwf,hk2⟩
theorem FV.cons {o:Oper} {ρ:Operand→Value} {L:List Blk} {R:Value→List Blk→Prop} (h:FV P w0 o ρ L R) (b:Blk):FV P w0 o ρ (b::L) R:=fun w hw=>h w hw.tail
theorem q5e {κ:Nat→Kind} {Q:Act→List Blk→Prop} (hQ:∀a M M',M.Perm M'→Q a M→Q a M') {i:Nat} {oi:Oper} (hk:κ i= .fresh) (hi:ops[i]? =some oi) (hsi:∀cs b,oi.op≠.select cs b) (B:Nat→Bool) (hB:∀j oj,ops[j]? =some oj→B j=true→∃e∈oj.after,Region.binds .any e=true∧(e.on=i∨B e.on=true)):
  ∀(fuel:Nat) (listed:Array Bool) (a:Act) (L:List Blk),
   (∀j oj,ops[j]? =some oj→j≠i→listed.getD j true=false→B j=false→oi.apart ops oj=true∧κ j= .alloc)→(∀k,listed.getD k false=true→B k=false)→
   i∈Region.ready .any ops listed→
   mOp P w0 L0 ops .fresh i (wpM P w0 L0 ops κ Q fuel (listed.setIfInBounds i true)) a L→wpM P w0 L0 ops κ Q (fuel+1) listed a L:=by
 intro fuel
 induction fuel with
 |zero=>
  intro listed a L hfree hinv hr H
  refine ⟨fun h=>(by rw [h] at hr;cases hr),fun j hj=> ?_⟩
  by_cases hji:j=i
  ·subst hji;rw [hk];exact H
  ·exfalso
   have hm:=ready_mono hj hji
   unfold Own.mOp at H
   simp only [hi] at H
   split at H
   ·obtain ⟨R,_,⟨v,LN,hr'⟩,h2⟩:=H
    have:=(h2 v LN hr').1
    rw [this] at hm;cases hm
   ·rw [H.1] at hm;cases hm
 |succ fuel ih=>
  intro listed a L hfree hinv hr H
  refine ⟨fun h=>(by rw [h] at hr;cases hr),fun j hj=> ?_⟩
  by_cases hji:j=i
  ·subst hji;rw [hk];exact H
  ·obtain ⟨hjun,oj,hoj,hall⟩:=mem_ready.1 hj
   have hnot:=zf5 (i:=i) hr hall
   have hBj:B j=false:=by
    rw [Bool.eq_false_iff];intro hb
    obtain ⟨e,he,hbd,h1 |h1⟩:=hB j oj hoj hb
    ·exact hnot e he hbd h1
    ·rw [hinv e.on (hall e he hbd)] at h1;cases h1
   have hinv':∀k,(listed.setIfInBounds j true).getD k false=true→B k=false:=by
    intro k hk'
    by_cases hjk:j=k
    ·subst hjk;exact hBj
    ·rw [getD_set_ne false hjk] at hk';exact hinv k hk'
   obtain ⟨hap,hke⟩:=hfree j oj hoj hji hjun hBj
   obtain ⟨a1,a2,a3⟩:=Oper.apart_spec hap
   have hrm:=ready_mono hj hji
   rw [hke]
   have hfree':∀k ok,ops[k]? =some ok→k≠i→(listed.setIfInBounds j true).getD k true=false→B k=false→oi.apart ops ok=true∧κ k= .alloc:=by
    intro k ok hok hki hun hno
    refine hfree k ok hok hki ?_ hno
    by_cases hjk:j=k
    ·subst hjk;exact hjun
    ·rw [getD_set_ne true hjk] at hun;exact hun
   have hr':=ready_mono hr (Ne.symm hji)
   unfold Own.mOp at H
   simp only [hi] at H
   have key:∀(x:Value) (M:List Blk),wpM P w0 L0 ops κ Q (fuel+1) (listed.setIfInBounds i true) (a.put oi.dst x) M→mOp P w0 L0 ops .alloc j (fun a' L'=>wpM P w0 L0 ops κ Q fuel ((listed.setIfInBounds i true).setIfInBounds j true) (a'.put oi.dst x) L') a M:=by
    intro x M hx
    have h1:=hx.2 j hrm
    rw [hke] at h1
    unfold Own.mOp at h1 ⊢
    simp only [hoj] at h1 ⊢
    rw [wanted_put oj a oi.dst x a1] at h1
    split
    ·rename_i hw
     simp only [hw,if_true] at h1
     obtain ⟨q,cs,t,hu,hn⟩:=h1
     rw [qhd a oi.dst x a1] at hu
     exact ⟨q,cs,t,hu,fun g=>by
      show wpM P w0 L0 ops κ Q fuel _ ((a.put oj.dst _).put oi.dst x) _
      rw [←Act.put_comm a x _ a2];exact hn g⟩
    ·rename_i hw
     simp only [hw] at h1
     show wpM P w0 L0 ops κ Q fuel _ _ _
     rw [←Act.put_comm a x undef a2];exact h1
   by_cases hwi:Region.wanted oi (yielded ops a.tmps)=true
   ·simp only [hwi,if_true] at H
    obtain ⟨R,hR,⟨v0,LN0,hr0⟩,hni⟩:=H
    have hk2:=fun v LN (hr:R v LN)=>key _ _ (hni v LN hr)
    unfold Own.mOp at hk2 ⊢
    simp only [hoj] at hk2 ⊢
    split
    ·rename_i hw
     simp only [hw,if_true] at hk2
     obtain ⟨q,cs,t,hu,_⟩:=hk2 v0 LN0 hr0
     refine ⟨q,cs,t,hu,fun gj=>ih _ _ _ hfree' hinv' hr' ?_⟩
     unfold Own.mOp
     simp only [hi]
     rw [wanted_put oi a oj.dst _ a3]
     simp only [hwi,if_true]
     refine ⟨R,FV.cons (by unfold FV at *;rw [execOp_put oi hsi a oj.dst _ a3];exact hR) _,⟨v0,LN0,hr0⟩,fun v LN hr=> ?_⟩
     obtain ⟨q',cs',t',hu',hn'⟩:=hk2 v LN hr
     rw [hu] at hu'
     simp only [Option.some.injEq,Prod.mk.injEq] at hu'
     obtain ⟨rfl,rfl,rfl⟩:=hu'
     have:=hn' gj
     rw [Array.setIfInBounds_comm _ _ hji]
     exact qq_ hQ _ _ _ _ _ List.perm_middle.symm this
    ·rename_i hw
     simp only [hw] at hk2
     refine ih _ _ _ hfree' hinv' hr' ?_
     unfold Own.mOp
     simp only [hi]
     rw [wanted_put oi a oj.dst _ a3]
     simp only [hwi,if_true]
     refine ⟨R,by unfold FV at *;rw [execOp_put oi hsi a oj.dst _ a3];exact hR,⟨v0,LN0,hr0⟩,fun v LN hr=> ?_⟩
     have:=hk2 v LN hr
     rw [Array.setIfInBounds_comm _ _ hji]
     exact this
   ·simp only [hwi] at H
    have hk2:=key _ _ H
    refine qrs (fun a' L' h3=> ?_) (show mOp P w0 L0 ops .alloc j (fun a' L'=>Region.wanted oi (yielded ops a'.tmps)=false∧wpM P w0 L0 ops κ Q fuel ((listed.setIfInBounds i true).setIfInBounds j true) (a'.put oi.dst undef) L') a L from ?_)
    ·refine ih _ _ _ hfree' hinv' hr' ?_
     unfold Own.mOp
     simp only [hi,h3.1,Bool.false_eq_true,if_false]
     rw [Array.setIfInBounds_comm _ _ hji]
     exact h3.2
    ·have hwf:Region.wanted oi (yielded ops a.tmps)=false:=by simpa using hwi
     unfold Own.mOp at hk2 ⊢
     simp only [hoj] at hk2 ⊢
     split
     ·rename_i hw
      simp only [hw,if_true] at hk2
      obtain ⟨q,cs,t,hu,hn⟩:=hk2
      exact ⟨q,cs,t,hu,fun g=>⟨by rw [wanted_put oi a oj.dst _ a3];exact hwf,hn g⟩⟩
     ·rename_i hw
      simp only [hw] at hk2
      exact ⟨by rw [wanted_put oi a oj.dst _ a3];exact hwf,hk2⟩
def qsk (ops:Array Oper) (i:Nat):List Nat:=
 (List.range ops.size).foldl (fun bl j=>match ops[j]? with
  |some oj=>if oj.after.any (fun e=>Region.binds .any e&&(e.on==i||bl.contains e.on)) then j::bl else bl
  |none=>bl) []
def q5i (ops:Array Oper) (listed:Array Bool) (i:Nat) (ok:Nat→Bool):Bool:=
 match ops[i]? with
 |none=>false
 |some oi=>
  let bl:=qsk ops i
  (bl.all fun j=> !listed.getD j false&&match ops[j]? with |some oj=>oj.after.any (fun e=>Region.binds .any e&&(e.on==i||bl.contains e.on)) |none=>false)&&
  (List.range ops.size).all fun j=>j==i||listed.getD j true||bl.contains j||match ops[j]? with
   |some oj=>oi.apart ops oj&&ok j
   |none=>true
theorem qmj {i:Nat} {oi:Oper} {listed:Array Bool} {ok:Nat→Bool} (hi:ops[i]? =some oi) (h:q5i ops listed i ok=true):
  (∀j oj,ops[j]? =some oj→j≠i→listed.getD j true=false→(qsk ops i).contains j=false→oi.apart ops oj=true∧ok j=true)∧
  (∀k,listed.getD k false=true→(qsk ops i).contains k=false)∧
  (∀j oj,ops[j]? =some oj→(qsk ops i).contains j=true→∃e∈oj.after,Region.binds .any e=true∧(e.on=i∨(qsk ops i).contains e.on=true)):=by
 simp only [q5i,hi,Bool.and_eq_true,List.all_eq_true,List.mem_range] at h
 obtain ⟨h1,h2⟩:=h
 refine ⟨fun j oj hj hne hun hb=> ?_,fun k hk=> ?_,fun j oj hj hb=> ?_⟩
 ·have h3:=h2 j (Array.getElem?_eq_some_iff.1 hj).1
  simp only [hj,Bool.or_eq_true,beq_iff_eq,hne,false_or,hun,Bool.false_eq_true,hb] at h3
  simpa using h3
 ·rw [Bool.eq_false_iff];intro hb
  have:=(h1 k (by simpa using hb)).1
  rw [hk] at this;cases this
 ·have h3:=(h1 j (by simpa using hb)).2
  simp only [hj] at h3
  rw [Array.any_eq_true'] at h3
  obtain ⟨e,he,hbd⟩:=h3
  simp only [Bool.and_eq_true,Bool.or_eq_true,beq_iff_eq] at hbd
  exact ⟨e,he,hbd.1,hbd.2⟩
def zf8 (ops:Array Oper) (κ:Nat→Kind) (listed:Array Bool) (i:Nat):Bool:=
 match κ i with
 | .eff | .eff0=>Region.ready .any ops listed==[i]
 |k=>Region.ready .any ops listed==[i]||((Region.ready .any ops listed).contains i&&q5i ops listed i fun j=>k.lets (κ j))
def qi3 (ops:Array Oper) (κ:Nat→Kind):List Nat→Array Bool→Bool
 |[],listed=>(Region.ready .any ops listed).isEmpty
 |i::π,listed=>zf8 ops κ listed i&&qi3 ops κ π (listed.setIfInBounds i true)
theorem qt7 {κ:Nat→Kind} {Q:Act→List Blk→Prop} (hQ:∀a M M',M.Perm M'→Q a M→Q a M') (hs:Region.noSelect ops=true):
  ∀(π:List Nat) (listed:Array Bool) (a:Act) (L:List Blk),qi3 ops κ π listed=true→
   lexW P w0 L0 ops Q (π.map fun i=>(κ i,ops.getD i default)) a L→wpM P w0 L0 ops κ Q π.length listed a L
 |[],listed,a,L,hB,h=>⟨by simpa [qi3] using hB,h⟩
 |i::π,listed,a,L,hB,h=>by
  simp only [qi3,Bool.and_eq_true] at hB
  obtain ⟨hb,hB'⟩:=hB
  have hget:∀oi,ops[i]? =some oi→ops.getD i default=oi:=fun oi ho=>by simp [ho]
  have ih:=fun a L=>qt7 hQ hs π (listed.setIfInBounds i true) a L hB'
  simp only [List.map_cons,lexW] at h
  rw [List.length_cons]
  unfold zf8 at hb
  have single:(Region.ready .any ops listed==[i])=true→wpM P w0 L0 ops κ Q (π.length+1) listed a L:=by
   intro hb
   have hr:Region.ready .any ops listed=[i]:=by simpa using hb
   have hr':i∈Region.ready .any ops listed:=by rw [hr];simp
   obtain ⟨_,oi,hoi,_⟩:=mem_ready.1 hr'
   rw [hget oi hoi] at h
   refine ⟨fun h0=>(by rw [hr] at h0;cases h0),fun j hj=> ?_⟩
   rw [hr] at hj
   obtain rfl:j=i:=by simpa using hj
   unfold Own.mOp
   simp only [hoi]
   by_cases hw:Region.wanted oi (yielded ops a.tmps)=true
   ·simp only [hw,if_true] at h ⊢
    exact qld ih h
   ·simp only [hw] at h ⊢
    exact ih _ _ h
  have value:(κ i).val=true→(Region.ready .any ops listed).contains i=true→q5i ops listed i (fun j=>(κ i).lets (κ j))=true→wpM P w0 L0 ops κ Q (π.length+1) listed a L:=by
   intro hk hr hf
   have hr':i∈Region.ready .any ops listed:=by simpa using hr
   obtain ⟨_,oi,hoi,_⟩:=mem_ready.1 hr'
   rw [hget oi hoi] at h
   obtain ⟨hf1,hf2,hf3⟩:=qmj hoi hf
   by_cases hw:Region.wanted oi (yielded ops a.tmps)=true
   ·simp only [hw,if_true] at h
    have h':∃v,VK P w0 L0 (κ i) oi a.eval L v∧lexW P w0 L0 ops Q (π.map fun i=>(κ i,ops.getD i default)) (a.put oi.dst v) L:=by
     revert h hk
     cases κ i<;>intro hk h<;>simp [Kind.val] at hk<;>exact h
    obtain ⟨v,hv,hn⟩:=h'
    exact qqa hk hoi (Region.noSelect_spec hs) _ hf3 _ _ _ _ hf1 hf2 hr' (.inl ⟨hw,hv⟩) (ih _ _ hn)
   ·simp only [hw] at h
    exact qqa hk hoi (Region.noSelect_spec hs) _ hf3 _ _ _ _ hf1 hf2 hr' (.inr ⟨by simpa using hw,rfl⟩) (ih _ _ h)
  cases hk:κ i with
  |eff=>simp only [hk] at hb;exact single hb
  |eff0=>simp only [hk] at hb;exact single hb
  |alloc=>
   simp only [hk,Bool.or_eq_true,Bool.and_eq_true] at hb h
   rcases hb with hb |hb
   ·exact single hb
   obtain ⟨hr,hf⟩:=hb
   have hr':i∈Region.ready .any ops listed:=by simpa using hr
   obtain ⟨_,oi,hoi,_⟩:=mem_ready.1 hr'
   rw [hget oi hoi] at h
   obtain ⟨hf1,hf2,hf3⟩:=qmj hoi hf
   have hfree:∀j oj,ops[j]? =some oj→j≠i→listed.getD j true=false→(qsk ops i).contains j=false→oi.apart ops oj=true∧κ j= .alloc:=fun j oj hj hne hun hno=>(hf1 j oj hj hne hun hno).imp id (fun x=>by revert x;cases κ j<;>simp [Kind.lets])
   refine q5v hQ hk hoi _ hf3 _ _ _ _ hfree hf2 hr' ?_
   unfold Own.mOp
   simp only [hoi]
   by_cases hw:Region.wanted oi (yielded ops a.tmps)=true
   ·simp only [hw,if_true] at h ⊢
    exact qld ih h
   ·simp only [hw] at h ⊢
    exact ih _ _ h
  |fresh=>
   simp only [hk,Bool.or_eq_true,Bool.and_eq_true] at hb h
   rcases hb with hb |hb
   ·exact single hb
   obtain ⟨hr,hf⟩:=hb
   have hr':i∈Region.ready .any ops listed:=by simpa using hr
   obtain ⟨_,oi,hoi,_⟩:=mem_ready.1 hr'
   rw [hget oi hoi] at h
   obtain ⟨hf1,hf2,hf3⟩:=qmj hoi hf
   have hfree:∀j oj,ops[j]? =some oj→j≠i→listed.getD j true=false→(qsk ops i).contains j=false→oi.apart ops oj=true∧κ j= .alloc:=fun j oj hj hne hun hno=>(hf1 j oj hj hne hun hno).imp id (fun x=>by revert x;cases κ j<;>simp [Kind.lets])
   refine q5e hQ hk hoi (fun cs b=>Region.noSelect_spec hs i oi cs b hoi) _ hf3 _ _ _ _ hfree hf2 hr' ?_
   unfold Own.mOp
   simp only [hoi]
   by_cases hw:Region.wanted oi (yielded ops a.tmps)=true
   ·simp only [hw,if_true] at h ⊢
    exact qld ih h
   ·simp only [hw] at h ⊢
    exact ih _ _ h
  |_=>
   simp only [hk,Bool.or_eq_true,Bool.and_eq_true] at hb
   rcases hb with hb |hb
   ·exact single hb
   exact value (by rw [hk];rfl) hb.1 (by rw [hk];exact hb.2)
theorem qrr {κ:Nat→Kind} {id:Nat} {Q:Exit→Act→World→Prop} {a:Act} {L:List Blk} (π:List Nat) (hm:P.follows .mixedOrders=true) (hs:Region.noSelect ops=true) (hl:π.length=ops.size)
  (hB:qi3 ops κ π (Array.replicate ops.size false)=true)
  (h:lexW P w0 L0 ops (fun a' L'=>∀w',Own w0 L' w'→Q .normal a' w') (π.map fun i=>(κ i,ops.getD i default)) a L):
  ∀w,Own w0 L w→(Code.region id ops true).wp P Q a w:=by
 intro w hw
 have:=qt7 (κ:=κ) (fun a' M M' p hq w' ho=>hq w' (ho.perm p.symm)) hs π _ a L hB h
 rw [hl] at this
 exact wp_region_any hm (qm_ (κ:=κ) (Q:=fun a' L'=>∀w',Own w0 L' w'→Q .normal a' w') (fun a' L' w' ho hq=>hq w' ho) _ _ _ _ _ hw.drew this)
theorem z2f {κ:Nat→Kind} {id:Nat} {Q:Exit→Act→World→Prop} {a:Act} {L:List Blk}
  (h:lexW P w0 L0 ops (fun a' L'=>∀w',Own w0 L' w'→Q .normal a' w') ((List.range ops.size).map fun i=>(κ i,ops.getD i default)) a L):
  ∀w,Own w0 L w→(Code.region id ops false).wp P Q a w:=by
 intro w hw
 refine wp_region ?_
 have key:∀(l:List Nat),(∀i∈l,i<ops.size)→∀(a:Act) (L:List Blk) (w:World),Own w0 L w→lexW P w0 L0 ops (fun a' L'=>∀w',Own w0 L' w'→Q .normal a' w') (l.map fun i=>(κ i,ops.getD i default)) a L→wpOps P ops Q l a w:=by
  intro l
  induction l with
  |nil=>intro _ a L w hw h;exact h w hw
  |cons i l ih=>
   intro hl a L w hw h
   have hi:i<ops.size:=hl i (by simp)
   have hoi:ops[i]? =some (ops.getD i default):=by simp [hi]
   rw [wpOps_cons]
   simp only [List.map_cons,lexW] at h
   refine qpe (L0:=L0) (k:=κ i) (K:=lexW P w0 L0 ops (fun a' L'=>∀w',Own w0 L' w'→Q .normal a' w') (l.map fun i=>(κ i,ops.getD i default))) hw (fun a' L' w' ho hk=>ih (fun j hj=>hl j (.tail _ hj)) a' L' w' ho hk) ?_
   unfold Own.mOp
   simp only [hoi]
   exact h
 exact key _ (fun i hi=>List.mem_range.1 hi) a L w hw h
end
def look:List (Nat×Value)→Nat→Value
 |[],_=>undef
 |(d,v)::l,t=>bif Nat.beq d t then v else look l t
def frm (n:Nat) (l:List (Nat×Value)):Act:={tmps:=Array.ofFn fun i:Fin n=>look l i,defers:=[]}
def evL (n:Nat) (l:List (Nat×Value)):Operand→Value
 | .tmp t=>bif Nat.blt t n then look l t else undef
 | .const v=>v
 | .global g=> .pointer (some ⟨g,0,none⟩)
 | .func f=> .func (.func f) #[] #[]
def putL (dst:Option Tmp) (v:Value) (l:List (Nat×Value)):List (Nat×Value):=match dst with |none=>l |some d=>(d,v)::l
theorem qxb (n:Nat) (l:List (Nat×Value)) (t:Nat):(frm n l).tmps[t]? =if t<n then some (look l t) else none:=by
 unfold frm
 by_cases h:t<n<;>simp [h]
theorem qgg (n:Nat) (l:List (Nat×Value)):(frm n l).eval=evL n l:=by
 funext x
 cases x with
 |tmp t=>
  show (frm n l).tmps.getD t undef=_
  rw [Array.getD_eq_getD_getElem?,qxb]
  by_cases h:t<n
  ·have:Nat.blt t n=true:=by simpa [Nat.blt_eq] using h
   simp [h,evL,this]
  ·have:Nat.blt t n=false:=by rw [Bool.eq_false_iff];intro e;exact h (by simpa [Nat.blt_eq] using e)
   simp [h,evL,this]
 |_=>rfl
theorem qk6 (n:Nat) (l:List (Nat×Value)) (dst:Option Tmp) (v:Value):(frm n l).put dst v=frm n (putL dst v l):=by
 cases dst with
 |none=>rfl
 |some d=>
  simp only [Act.put,frm,putL,Act.mk.injEq,and_true]
  have g:∀(l:List (Nat×Value)) (i:Nat),(Array.ofFn fun i:Fin n=>look l i)[i]? =if i<n then some (look l i) else none:=fun l i=>qxb n l i
  apply Array.ext_getElem?
  intro i
  rw [g]
  by_cases e:d=i
  ·subst e
   by_cases hd:d<n
   ·rw [Array.getElem?_setIfInBounds_self_of_lt (by simpa using hd)];simp [hd,look]
   ·rw [Array.getElem?_eq_none (by simpa using hd)];simp [hd]
  ·have:Nat.beq d i=false:=by rw [Bool.eq_false_iff];intro q;exact e (Nat.eq_of_beq_eq_true q)
   rw [Array.getElem?_setIfInBounds_ne e,g];simp [look,this]
def qca (ops:List Oper) (n:Nat) (l:List (Nat×Value)) (o:Oper):Bool:=
 match o.guard with
 |none=>true
 |some (j,want)=>
  match (ops[j]?).bind (·.dst) with
  |none=>false
  |some d=>match evL n l (.tmp d) with
   | .bool b=>b==want
   |_=>false
theorem qoh (ops:List Oper) (n:Nat) (l:List (Nat×Value)) (o:Oper):Region.wanted o (yielded ops.toArray (frm n l).tmps)=qca ops n l o:=by
 unfold Region.wanted qca
 cases o.guard with
 |none=>rfl
 |some p=>
  obtain ⟨j,want⟩:=p
  simp only [yielded,List.getElem?_toArray]
  cases (ops[j]?).bind (·.dst) with
  |none=>cases want<;>rfl
  |some d=>
   simp only [Option.bind_some,qxb,evL]
   by_cases h:d<n
   ·have hb:Nat.blt d n=true:=by simpa [Nat.blt_eq] using h
    simp only [h,hb,if_true,cond_true]
    cases look l d<;>first |rfl |(rename_i b;cases b<;>cases want<;>rfl)
   ·have hb:Nat.blt d n=false:=by rw [Bool.eq_false_iff];intro e;exact h (by simpa [Nat.blt_eq] using e)
    simp only [h,hb,if_false,cond_false,undef]
    cases want<;>rfl
theorem qcr {ops:List Oper} {n:Nat} {l:List (Nat×Value)} {o:Oper} {j d:Nat} {e:Bool} (hg:o.guard=some (j,true)) (hd:(ops[j]?).bind (·.dst)=some d) (he:evL n l (.tmp d)= .bool e) (h:e=true):qca ops n l o=true:=by
 subst h;simp [qca,hg,hd,he]
theorem qcw {ops:List Oper} {n:Nat} {l:List (Nat×Value)} {o:Oper} {j d:Nat} {e:Bool} (hg:o.guard=some (j,false)) (hd:(ops[j]?).bind (·.dst)=some d) (he:evL n l (.tmp d)= .bool e) (h:e=false):qca ops n l o=true:=by
 subst h;simp [qca,hg,hd,he]
theorem zp9 {ops:List Oper} {n:Nat} {l:List (Nat×Value)} {o:Oper} {j d:Nat} {e:Bool} (hg:o.guard=some (j,true)) (hd:(ops[j]?).bind (·.dst)=some d) (he:evL n l (.tmp d)= .bool e) (h:e=false):qca ops n l o=false:=by
 subst h;simp [qca,hg,hd,he]
theorem zov {ops:List Oper} {n:Nat} {l:List (Nat×Value)} {o:Oper} {j d:Nat} {e:Bool} (hg:o.guard=some (j,false)) (hd:(ops[j]?).bind (·.dst)=some d) (he:evL n l (.tmp d)= .bool e) (h:e=true):qca ops n l o=false:=by
 subst h;simp [qca,hg,hd,he]
def kf (draws:Bool) (ov:List (Nat×Kind)) (o:Oper):Kind:=
 match o.op with
 | .alloc _ | .box .. | .buildSlice .. => .alloc
 |op=>
  if draws then
   match (o.dst.bind fun d=>ov.lookup d) with
   |some k=>k
   |none=>match op with
    | .load .. => .base
    | .store _ (.tmp t) _=>(ov.lookup (2000+t)).getD ((ov.lookup 998).getD .eff0)
    | .store .. =>(ov.lookup 998).getD .eff0
    | .makeSlice .. | .insert .. | .mapUpdate .. | .entryStore .. | .next .. | .range .. => .eff
    | .call {callee:= .builtin .append,..} | .call {callee:= .builtin .copy,..} | .call {callee:= .builtin .clear,..} | .call {callee:= .builtin .delete,..}=> .eff
    | .call {callee:= .value (.func f),..}=>(ov.lookup (f+1000)).getD .pure
    | .call {callee:= .value _,..}=>(ov.lookup 999).getD .pure
    |_=> .pure
  else .eff
theorem zy5 {ov:List (Nat×Kind)} {o:Oper} (h:kf false ov o≠.alloc):kf false ov o= .eff:=by
 unfold kf at *
 split at h<;>simp_all
section
variable {P:Program} {w0:World}
structure lexO (P:Program) (w0:World) (L0:List Blk) (ops:List Oper) (q:Bool) (E:List (Nat×Kind)) (K:Act→List Blk→Prop) (r:List Oper) (a:Act) (L:List Blk):Prop where
 out:lexW P w0 L0 ops.toArray K (r.map fun o=>(kf q E o,o)) a L
structure J (P:Program) (w0:World) (c:Code) (Q:Exit→Act→World→Prop) (a:Act) (L:List Blk):Prop where
 out:∀w,Own w0 L w→c.wp P Q a w
structure X (w0:World) (Q:Exit→Act→World→Prop) (e:Exit) (a:Act) (L:List Blk):Prop where
 out:∀w,Own w0 L w→Q e a w
variable {L0:List Blk} {ops rest:List Oper} {q:Bool} {E:List (Nat×Kind)} {K:Act→List Blk→Prop} {n:Nat} {l:List (Nat×Value)} {L:List Blk} {o:Oper} {v:Value}
theorem qeg (h:K (frm n l) L):lexO P w0 L0 ops q E K [] (frm n l) L:=⟨h⟩
theorem zav (hw:qca ops n l o=false) (h:lexO P w0 L0 ops q E K rest (frm n (putL o.dst undef l)) L):lexO P w0 L0 ops q E K (o::rest) (frm n l) L:=by
 constructor
 simp only [List.map_cons,lexW,qoh,hw,Bool.false_eq_true,if_false,qk6]
 exact h.out
theorem qt0 (hw:qca ops n l o=true) (hk:(kf q E o).val=true∨kf q E o= .eff) (hv:(kf q E o).val=true→VK P w0 L0 (kf q E o) o (evL n l) L v) (hv2:QV P w0 o (evL n l) L v) (h:lexO P w0 L0 ops q E K rest (frm n (putL o.dst v l)) L):lexO P w0 L0 ops q E K (o::rest) (frm n l) L:=by
 constructor
 simp only [List.map_cons,lexW,qoh,hw,if_true]
 rcases hk with hk |hk
 ·have hv:=hv hk
  revert hk hv
  cases kf q E o<;>intro hk hv<;>simp [Kind.val] at hk<;>exact ⟨v,by rw [qgg];exact hv,by rw [qk6];exact h.out⟩
 ·rw [hk]
  refine ⟨fun u M=>u=v∧M=L,?_,?_⟩
  ·intro w hw'
   rw [qgg]
   have h1:=hv2 w hw'
   generalize (execOp (evL n l) o).run P w=r at *
   cases r with
   |ok x w'=>
    cases x<;>simp only [qhf] at h1<;>simp only [qir]
    case value u=>obtain ⟨rfl,rfl⟩:=h1;exact ⟨L,⟨rfl,rfl⟩,hw'⟩
    case skip=>obtain ⟨rfl,rfl⟩:=h1;exact ⟨L,⟨rfl,rfl⟩,hw'⟩
    case enter f args=>
     obtain ⟨rfl,hc⟩:=h1
     exact hc.mono fun e w'' ⟨he,hb⟩=>⟨v,L,he,⟨rfl,rfl⟩,hw'.ext hb⟩
   |halt x w'=>simp only [qhf] at h1
  ·rintro u M ⟨rfl,rfl⟩
   rw [qk6];exact h.out
theorem qev {j d:Nat} {e want:Bool} (hg:o.guard=some (j,want)) (hd:(ops[j]?).bind (·.dst)=some d) (he:evL n l (.tmp d)= .bool e)
  (ht:e=true→lexO P w0 L0 ops q E K (o::rest) (frm n l) L) (hf:e=false→lexO P w0 L0 ops q E K (o::rest) (frm n l) L):lexO P w0 L0 ops q E K (o::rest) (frm n l) L:=by
 cases e
 ·exact hf rfl
 ·exact ht rfl
theorem qtb {k:Option Nat} {cs:List Value} {t:TypeId} (hw:qca ops n l o=true) (hk:kf q E o= .alloc) (hv:qfg P o (evL n l)=some (k,cs,t))
  (h:∀g,lexO P w0 L0 ops q E K rest (frm n (putL o.dst (q10 k g) l)) ((g,cs,t)::L)):lexO P w0 L0 ops q E K (o::rest) (frm n l) L:=by
 constructor
 simp only [List.map_cons,lexW,qoh,hw,if_true,hk]
 exact ⟨k,cs,t,by rw [qgg];exact hv,fun g=>by rw [qk6];exact (h g).out⟩
theorem zjw {R:Value→List Blk→Prop} (hw:qca ops n l o=true) (hk:kf q E o= .eff∨kf q E o= .eff0) (hv:EV P w0 o (evL n l) L R) (h0:kf q E o= .eff0→∀v L',R v L'→∀b∈L0,b∈L')
  (h:∀v L',R v L'→lexO P w0 L0 ops q E K rest (frm n (putL o.dst v l)) L'):lexO P w0 L0 ops q E K (o::rest) (frm n l) L:=by
 constructor
 simp only [List.map_cons,lexW,qoh,hw,if_true]
 rcases hk with hk |hk
 ·rw [hk];exact ⟨R,by rw [qgg];exact hv,fun v L' hr=>by rw [qk6];exact (h v L' hr).out⟩
 ·rw [hk];exact ⟨R,by rw [qgg];exact hv,h0 hk,fun v L' hr=>by rw [qk6];exact (h v L' hr).out⟩
theorem zzj {R:Value→List Blk→Prop} (hw:qca ops n l o=true) (hk:kf q E o= .fresh) (hv:FV P w0 o (evL n l) L R) (h0:∃v LN,R v LN)
  (h:∀v LN,R v LN→lexO P w0 L0 ops q E K rest (frm n (putL o.dst v l)) (LN++L)):lexO P w0 L0 ops q E K (o::rest) (frm n l) L:=by
 constructor
 simp only [List.map_cons,lexW,qoh,hw,if_true,hk]
 exact ⟨R,by rw [qgg];exact hv,h0,fun v LN hr=>by rw [qk6];exact (h v LN hr).out⟩
def EV1 (P:Program) (w0:World) (o:Oper) (ρ:Operand→Value) (L:List Blk) (v:Value) (L':List Blk):Prop:=EV P w0 o ρ L fun u M=>u=v∧M=L'
theorem z99 {L':List Blk} (hw:qca ops n l o=true) (hk:kf q E o= .eff∨kf q E o= .eff0) (h0:kf q E o= .eff0→∀b∈L0,b∈L') (hv:EV1 P w0 o (evL n l) L v L')
  (h:lexO P w0 L0 ops q E K rest (frm n (putL o.dst v l)) L'):lexO P w0 L0 ops q E K (o::rest) (frm n l) L:=
 zjw hw hk hv (fun hk v M hr=>by rw [hr.2];exact h0 hk) fun u M ⟨h1,h2⟩=>by subst h1;subst h2;exact h
theorem qh7 {L0:List Blk} {ops:Array Oper} {K K':Act→List Blk→Prop} (h:∀a L,K a L→K' a L):∀(r:List (Kind×Oper)) {a:Act} {L:List Blk},lexW P w0 L0 ops K r a L→lexW P w0 L0 ops K' r a L
 |[],_,_,hh=>h _ _ hh
 |(k,o)::r,a,L,hh=>by
  simp only [lexW] at hh ⊢
  split
  ·rename_i hw;simp only [hw,if_true] at hh;exact qld (fun a L hx=>qh7 h r hx) hh
  ·rename_i hw;simp only [hw] at hh;exact qh7 h r hh
theorem qc4 {Q:Exit→Act→World→Prop} {id:Nat} {a:Act} (h:lexO P w0 L ops false [] (fun a' L'=>X w0 Q .normal a' L') ops a L):J P w0 (.region id ops.toArray false) Q a L:=by
 have h:=h.out
 constructor
 refine z2f (L0:=L) (κ:=fun i=>kf false [] (ops.toArray.getD i default)) (qh7 (K:=fun a' L'=>X w0 Q .normal a' L') (fun a' L' hx w' ho=>hx.out w' ho) _ ?_)
 have:(List.range ops.toArray.size).map (fun i=>(kf false [] (ops.toArray.getD i default),ops.toArray.getD i default))=ops.map fun o=>(kf false [] o,o):=by
  apply List.ext_getElem?
  intro i
  simp only [List.getElem?_map,List.size_toArray]
  by_cases hi:i<ops.length
  ·rw [List.getElem?_range hi,List.getElem?_eq_getElem hi]
   simp [hi]
  ·rw [List.getElem?_eq_none (by simpa using hi),List.getElem?_eq_none (by simpa using hi)];rfl
 rw [this]
 exact h
theorem qcg {Q:Exit→Act→World→Prop} {id:Nat} {a:Act} (E:List (Nat×Kind)) (hm:P.follows .mixedOrders=true)
  (hB:(Region.noSelect ops.toArray&&qi3 ops.toArray (fun i=>kf true E (ops.toArray.getD i default)) (List.range ops.length) (Array.replicate ops.length false))=true)
  (h:lexO P w0 L ops true E (fun a' L'=>X w0 Q .normal a' L') ops a L):J P w0 (.region id ops.toArray true) Q a L:=by
 have h:=h.out
 constructor
 simp only [Bool.and_eq_true] at hB
 refine qrr (L0:=L) (κ:=fun i=>kf true E (ops.toArray.getD i default)) (List.range ops.length) hm hB.1 (by simp) (by simpa using hB.2) (qh7 (K:=fun a' L'=>X w0 Q .normal a' L') (fun a' L' hx w' ho=>hx.out w' ho) _ ?_)
 have:(List.range ops.length).map (fun i=>(kf true E (ops.toArray.getD i default),ops.toArray.getD i default))=ops.map fun o=>(kf true E o,o):=by
  apply List.ext_getElem?
  intro i
  simp only [List.getElem?_map]
  by_cases hi:i<ops.length
  ·rw [List.getElem?_range hi,List.getElem?_eq_getElem hi]
   simp [hi]
  ·rw [List.getElem?_eq_none (by simpa using hi),List.getElem?_eq_none (by simpa using hi)];rfl
 rw [this]
 exact h
theorem zbt {Q:Exit→Act→World→Prop} {id:Nat} {a:Act} (E:List (Nat×Kind)) (B:List Blk) (hm:P.follows .mixedOrders=true)
  (hB:(Region.noSelect ops.toArray&&qi3 ops.toArray (fun i=>kf true E (ops.toArray.getD i default)) (List.range ops.length) (Array.replicate ops.length false))=true)
  (h:lexO P w0 B ops true E (fun a' L'=>X w0 Q .normal a' L') ops a L):J P w0 (.region id ops.toArray true) Q a L:=by
 have h:=h.out
 constructor
 simp only [Bool.and_eq_true] at hB
 refine qrr (L0:=B) (κ:=fun i=>kf true E (ops.toArray.getD i default)) (List.range ops.length) hm hB.1 (by simp) (by simpa using hB.2) (qh7 (K:=fun a' L'=>X w0 Q .normal a' L') (fun a' L' hx w' ho=>hx.out w' ho) _ ?_)
 have:(List.range ops.length).map (fun i=>(kf true E (ops.toArray.getD i default),ops.toArray.getD i default))=ops.map fun o=>(kf true E o,o):=by
  apply List.ext_getElem?
  intro i
  simp only [List.getElem?_map]
  by_cases hi:i<ops.length
  ·rw [List.getElem?_range hi,List.getElem?_eq_getElem hi]
   simp [hi]
  ·rw [List.getElem?_eq_none (by simpa using hi),List.getElem?_eq_none (by simpa using hi)];rfl
 rw [this]
 exact h
variable {Q:Exit→Act→World→Prop} {a:Act} {x y:Code}
theorem yb8 (h:J P w0 x (Exit.then (y.wp P Q) Q) a L):J P w0 (.seq x y) Q a L:=⟨fun w hw=>wp_seq (h.out w hw)⟩
theorem qc6 (h:X w0 Q .normal a L):J P w0 .skip Q a L:=⟨fun w hw=>wp_skip (h.out w hw)⟩
theorem qee (h:X w0 Q .ret a L):J P w0 .ret Q a L:=⟨fun w hw=>wp_ret (h.out w hw)⟩
theorem qc5 {id:Nat} (h:X w0 Q (.exit id) a L):J P w0 (.exit id) Q a L:=⟨fun w hw=>wp_exit (h.out w hw)⟩
theorem qb2 {id:Nat} (h:J P w0 x (Exit.inBlock id Q) a L):J P w0 (.block id x) Q a L:=⟨fun w hw=>wp_block (h.out w hw)⟩
theorem z0o {c:Operand} {t:Bool} (hc:evL n l c= .bool t) (ht:t=true→J P w0 x Q (frm n l) L) (hf:t=false→J P w0 y Q (frm n l) L):J P w0 (.cond c x y) Q (frm n l) L:=
 ⟨fun w hw=>wp_cond_split (t:=t) (by rw [qgg];exact hc) (fun h=>(ht h).out w hw) (fun h=>(hf h).out w hw)⟩
theorem zpk {c:Operand} (hc:evL n l c= .bool true) (h:J P w0 x Q (frm n l) L):J P w0 (.cond c x y) Q (frm n l) L:=
 ⟨fun w hw=>wp_cond_true (by rw [qgg];exact hc) (h.out w hw)⟩
theorem zc0 {c:Operand} (hc:evL n l c= .bool false) (h:J P w0 y Q (frm n l) L):J P w0 (.cond c x y) Q (frm n l) L:=
 ⟨fun w hw=>wp_cond_false (by rw [qgg];exact hc) (h.out w hw)⟩
theorem zp_ (h:J P w0 y Q a L):X w0 (Exit.then (y.wp P Q) Q) .normal a L:=⟨fun w hw=>h.out w hw⟩
theorem qa1 {N:Act→World→Prop} (h:X w0 Q .ret a L):X w0 (Exit.then N Q) .ret a L:=⟨fun w hw=>h.out w hw⟩
theorem qam {N:Act→World→Prop} {id:Nat} (h:X w0 Q (.exit id) a L):X w0 (Exit.then N Q) (.exit id) a L:=⟨fun w hw=>h.out w hw⟩
theorem qb3 {id:Nat} (h:X w0 Q .normal a L):X w0 (Exit.inBlock id Q) .normal a L:=⟨fun w hw=>h.out w hw⟩
theorem qap {id:Nat} (h:X w0 Q .ret a L):X w0 (Exit.inBlock id Q) .ret a L:=⟨fun w hw=>h.out w hw⟩
theorem qar {id:Nat} (h:X w0 Q .normal a L):X w0 (Exit.inBlock id Q) (.exit id) a L:=⟨fun w hw=>by
 simp only [Exit.inBlock,if_true];exact h.out w hw⟩
theorem qaj {id id':Nat} (hne:Nat.beq id' id=false) (h:X w0 Q (.exit id') a L):X w0 (Exit.inBlock id Q) (.exit id') a L:=⟨fun w hw=>by
 have:id'≠id:=fun e=>by rw [e] at hne;simp at hne
 simp only [Exit.inBlock,this,if_false];exact h.out w hw⟩
def Pure (P:Program) (f:FuncId) (args:Array Value) (v:Value):Prop:=∀w,Calls P f args w fun e w'=>e= .returned v∧Below w.heap.size w w'
def initL (args:List Value):List (Nat×Value):=go 0 args
where go:Nat→List Value→List (Nat×Value)
 |_,[]=>[]
 |i,v::r=>(i,v)::go (i+1) r
theorem zar (args:List Value):∀i t,look (initL.go i args) (i+t)=args.getD t undef:=by
 induction args with
 |nil=>intro i t;simp [initL.go,look]
 |cons v r ih=>
  intro i t
  simp only [initL.go,look]
  cases t with
  |zero=>simp
  |succ t=>
   have:Nat.beq i (i+(t+1))=false:=by rw [Bool.eq_false_iff];intro q;have:=Nat.eq_of_beq_eq_true q;omega
   simp only [this,cond_false,List.getD_cons_succ]
   have:=ih (i+1) t
   rw [show i+1+t=i+(t+1) from by omega] at this
   exact this
theorem qzd (args:List Value) (n:Nat) (h:Nat.ble args.length n=true):({tmps:=args.toArray++Array.replicate (n - args.toArray.size) undef,defers:=[]}:Act)=frm n (initL args):=by
 have h:=Nat.le_of_ble_eq_true h
 simp only [frm,Act.mk.injEq,and_true]
 apply Array.ext
 ·simp;omega
 ·intro i h1 h2
  have hl:=zar args 0 i
  simp only [Nat.zero_add] at hl
  simp only [Array.getElem_ofFn,initL,hl]
  rw [Array.getElem_append]
  by_cases hi:i<args.length
  ·simp [hi]
  ·simp [hi]
theorem zg0 {f:FuncId} {fn:Func} {c:Code} {args:List Value} {w:World} {R:Ending→World→Prop} {n:Nat} (hf:P.funcs[f]? =some fn) (hb:fn.body=some c) (hn:fn.ntmps=n) (hl:Nat.ble args.length n=true)
  (h:J P w c (bodyPost P fn R) (frm n (initL args)) []):Calls P f args.toArray w R:=by
 subst hn
 refine calls_of_wp hf hb ?_
 rw [qzd args _ hl]
 exact h.out w (Own.start w)
theorem z4p {f:FuncId} {fn:Func} {c:Code} {args:List Value} {v:Value} {n:Nat} (hf:P.funcs[f]? =some fn) (hb:fn.body=some c) (hn:fn.ntmps=n) (hl:Nat.ble args.length n=true)
  (h:∀w0,J P w0 c (bodyPost P fn (fun e w'=>e= .returned v∧Below w0.heap.size w0 w')) (frm n (initL args)) []):Pure P f args.toArray v:=
 fun w=>zg0 hf hb hn hl (h w)
inductive HasB:List Blk→Nat→List Value→TypeId→Prop where
 |here {L g cs t}:HasB ((g,cs,t)::L) g cs t
 |next {L g cs t b} (h:HasB L g cs t):HasB (b::L) g cs t
theorem HasB.mem {L:List Blk} {g:Nat} {cs:List Value} {t:TypeId} (h:HasB L g cs t):(g,cs,t)∈L:=by
 induction h with
 |here=>exact .head _
 |next _ ih=>exact .tail _ ih
inductive SetB:List Blk→Nat→List Value→TypeId→List Value→List Blk→Prop where
 |here {L g cs t cs'}:SetB ((g,cs,t)::L) g cs t cs' ((g,cs',t)::L)
 |next {L L' g cs t cs' b} (h:SetB L g cs t cs' L'):SetB (b::L) g cs t cs' (b::L')
theorem SetB.has {L L':List Blk} {g:Nat} {cs cs':List Value} {t:TypeId} (h:SetB L g cs t cs' L'):HasB L g cs t:=by
 induction h with
 |here=>exact .here
 |next _ ih=>exact .next ih
theorem SetB.spec {L L':List Blk} {g:Nat} {cs cs':List Value} {t:TypeId} (h:SetB L g cs t cs' L') (hp:L.Pairwise (fun x y=>x.1≠y.1)):
  L'.map (·.1)=L.map (·.1)∧∀b∈L',(b.1=g∧b=(g,cs',t))∨(b.1≠g∧b∈L):=by
 induction h with
 |here=>
  refine ⟨rfl,fun b hb=> ?_⟩
  rcases List.mem_cons.1 hb with rfl |hb
  ·exact .inl ⟨rfl,rfl⟩
  ·exact .inr ⟨fun e=>(List.pairwise_cons.1 hp).1 b hb e.symm,.tail _ hb⟩
 | @next L L' g cs t cs' b h ih=>
  obtain ⟨h1,h2⟩:=ih (List.pairwise_cons.1 hp).2
  refine ⟨by simp [h1],fun x hx=> ?_⟩
  rcases List.mem_cons.1 hx with rfl |hx
  ·exact .inr ⟨fun e=>(List.pairwise_cons.1 hp).1 _ h.has.mem (by simpa using e),.head _⟩
  ·rcases h2 x hx with h3 |h3
   ·exact .inl h3
   ·exact .inr ⟨h3.1,.tail _ h3.2⟩
theorem Own.block {w:World} {g:Nat} {cs:List Value} {t:TypeId} (h:Own w0 L w) (hm:HasB L g cs t):w.heap[g]? =some (.cells cs.toArray t (0,0)):=h.held _ hm.mem
theorem Own.set {w w':World} {L':List Blk} {g:Nat} {cs cs':List Value} {t:TypeId} (h:Own w0 L w) (hs:SetB L g cs t cs' L') (hg:w'.heap[g]? =some (.cells cs'.toArray t (0,0)))
  (hk:∀k,k≠g→w'.heap[k]? =w.heap[k]?) (hz:w'.heap.size=w.heap.size) (h1:w'.os=w.os) (h2:w'.tape=w.tape) (h3:w'.output=w.output):Own w0 L' w':=by
 obtain ⟨e1,e2⟩:=hs.spec h.apart
 have hb:=h.base _ hs.has.mem
 refine ⟨h.below.trans ⟨h1,h2,h3,by omega,fun k hlt=>hk k (by simp only at hb;omega)⟩,?_,?_,?_⟩
 ·intro b hm
  rcases e2 b hm with ⟨_,rfl⟩ |⟨_,hb'⟩
  ·exact hb
  ·exact h.base b hb'
 ·intro b hm
  rcases e2 b hm with ⟨_,rfl⟩ |⟨hne,hb'⟩
  ·exact hg
  ·rw [hk b.1 hne];exact h.held b hb'
 ·have hp:=h.apart
  have:(L.map (·.1)).Pairwise (·≠·):=List.pairwise_map.2 hp
  rw [←e1] at this
  exact List.pairwise_map.1 this
end
def qcq (P:Program) (t:TypeId):Option (Bool×Nat):=
 match P.underlying t,P.info? t with
 |some d,some i=>some ((match d with | .struct _ | .array _ _=>true |_=>false),i.size)
 |_,_=>none
def qno (P:Program) (t:TypeId) (i:Nat):Option (Nat×Bool×Nat):=
 match P.underlying t with
 |some (.struct fs)=>(fs[i]?).bind fun f=>(qcq P f.type).map fun x=>(f.offset,x.1,x.2)
 |_=>none
def qdg (P:Program) (t:TypeId):Option Value:=(P.info? t).bind (·.zero)
def qwn (P:Program) (t e:TypeId):Bool:=match P.underlying t with |some (.slice e')=>e'==e |_=>false
def qyb (P:Program) (t n e:TypeId):Bool:=match P.underlying t with |some (.array n' e')=>n'==n&&e'==e |_=>false
def z2k (P:Program) (t:TypeId) (k:IntKind):Bool:=match P.underlying t with |some (.int k')=>decide (k'=k) |_=>false
theorem q5b {P:Program} {t e:TypeId} (h:qwn P t e=true):P.underlying t=some (.slice e):=by
 unfold qwn at h;split at h<;>simp_all
theorem q4k {P:Program} {t n e:TypeId} (h:qyb P t n e=true):P.underlying t=some (.array n e):=by
 unfold qyb at h;split at h<;>simp_all
theorem zhv {P:Program} {t:TypeId} {k:IntKind} (h:z2k P t k=true):P.underlying t=some (.int k):=by
 unfold z2k at h;split at h<;>simp_all
def qv7 {α:Type}:List (Nat×α)→Nat→Option α
 |[],_=>none
 |(k,x)::r,t=>bif Nat.beq k t then some x else qv7 r t
theorem qjw {α:Type}:∀{l:List (Nat×α)} {t:Nat} {x:α},qv7 l t=some x→(t,x)∈l
 |[],_,_,h=>by cases h
 |(k,y)::r,t,x,h=>by
  simp only [qv7] at h
  cases e:Nat.beq k t with
  |true=>simp only [e,cond_true,Option.some.injEq] at h;subst h;rw [Nat.eq_of_beq_eq_true e];exact .head _
  |false=>simp only [e,cond_false] at h;exact .tail _ (qjw h)
def q2u {α:Type}:List (Nat×Nat×α)→Nat→Nat→Option α
 |[],_,_=>none
 |(k,j,x)::r,t,i=>bif Nat.beq k t&&Nat.beq j i then some x else q2u r t i
theorem qqm {α:Type}:∀{l:List (Nat×Nat×α)} {t i:Nat} {x:α},q2u l t i=some x→(t,i,x)∈l
 |[],_,_,_,h=>by cases h
 |(k,j,y)::r,t,i,x,h=>by
  simp only [q2u] at h
  cases e:(Nat.beq k t&&Nat.beq j i) with
  |true=>
   simp only [e,cond_true,Option.some.injEq] at h;subst h
   simp only [Bool.and_eq_true] at e
   rw [Nat.eq_of_beq_eq_true e.1,Nat.eq_of_beq_eq_true e.2];exact .head _
  |false=>simp only [e,cond_false] at h;exact .tail _ (qqm h)
def hasN:List Nat→Nat→Bool
 |[],_=>false
 |k::r,t=>bif Nat.beq k t then true else hasN r t
theorem qyt:∀{l:List Nat} {t:Nat},hasN l t=true→t∈l
 |[],_,h=>by cases h
 |k::r,t,h=>by
  simp only [hasN] at h
  cases e:Nat.beq k t with
  |true=>rw [Nat.eq_of_beq_eq_true e];exact .head _
  |false=>simp only [e,cond_false] at h;exact .tail _ (qyt h)
section
variable {P:Program} {w0:World}
theorem ql1 {t:TypeId} {b:Bool} {n:Nat} (h:qcq P t=some (b,n)) (w:World):(isAgg t).run P w= .ok b w:=by
 unfold qcq at h
 split at h
 ·rename_i d i hd hi
  simp only [Option.some.injEq,Prod.mk.injEq] at h
  unfold isAgg
  rw [Sem.run_bind,run_underlying hd w,←h.1]
  cases d<;>rfl
 ·cases h
theorem qde {t:TypeId} {b:Bool} {n:Nat} (h:qcq P t=some (b,n)) (w:World):(sizeOf t).run P w= .ok n w:=by
 unfold qcq at h
 split at h
 ·rename_i d i hd hi
  simp only [Option.some.injEq,Prod.mk.injEq] at h
  simp [sizeOf,typeInfo,hi,go_sem,h.2]
 ·cases h
theorem qds (g off j:Nat):(⟨g,off,none⟩:Addr).add j=⟨g,off+j,none⟩:=by unfold Addr.add;split<;>simp_all
theorem qeh {t:TypeId} {n:Nat} (h:qcq P t=some (true,n)) {w:World} {g off:Nat} {vs:List Value} (hl:vs.length=n) (hc:∀j v,vs[j]? =some v→w.cell? ⟨g,off+j,none⟩=some v):
  (loadVar t ⟨g,off,none⟩).run P w= .ok (.agg vs.toArray) w:=by
 have h1:(loadCells ⟨g,off,none⟩ vs.length).run P w= .ok vs.toArray w:=run_loadCells_list (P:=P) w ⟨g,off,none⟩ vs fun j v hv=>by rw [qds];exact hc j v hv
 subst hl
 simp only [loadVar,Sem.run_bind,ql1 h w,qde h w,Result.andThen_ok,if_true,h1]
 rfl
theorem qed {t:TypeId} {n:Nat} (h:qcq P t=some (false,n)) {w:World} {a:Addr} {v:Value} (hc:w.cell? a=some v):(loadVar t a).run P w= .ok v w:=by
 simp only [loadVar,Sem.run_bind,ql1 h w,Result.andThen_ok,Bool.false_eq_true,if_false]
 simp [load,Sem.run,hc]
theorem HasB.cell {L:List Blk} {g:Nat} {cs:List Value} {t:TypeId} {w:World} (h:Own w0 L w) (hm:HasB L g cs t) (j:Nat):w.cell? ⟨g,j,none⟩=cs[j]? :=by
 rw [cell_of_row w g j cs.toArray t (0,0) (h.block hm)];simp
theorem qc2 {cs vs:List Value} {off n:Nat} (h:(cs.drop off).take n=vs) (j:Nat) (v:Value) (hj:vs[j]? =some v):cs[off+j]? =some v:=by
 subst h
 rw [List.getElem?_take] at hj
 split at hj
 ·rwa [List.getElem?_drop] at hj
 ·cases hj
variable {o:Oper} {ρ:Operand→Value} {L:List Blk}
theorem q_of {v:Value} (h:∀w,Own w0 L w→(execOp ρ o).run P w= .ok (.value v) w):QV P w0 o ρ L v:=fun w hw=>by rw [h w hw];exact ⟨rfl,rfl⟩
theorem qgt {s:Sem Value} {v:Value} {w:World} (h:s.run P w= .ok v w):(do pure (Next.value (←s)):Sem Next).run P w= .ok (.value v) w:=by
 simp only [Sem.run_bind,h,Result.andThen_ok];rfl
theorem zpu {x:Operand} (ho:o.op= .move x):QV P w0 o ρ L (ρ x):=q_of fun w _=>by simp only [execOp,ho];rfl
theorem qyr {x:Operand} (ho:o.op= .assign x):QV P w0 o ρ L (ρ x):=q_of fun w _=>by simp only [execOp,ho];rfl
theorem q4p {t:TypeId} {n:Nat} {hi:qcq P t=some (true,n)} {x:Operand} {g off:Nat} {cs vs:List Value} {T:TypeId} (ho:o.op= .load t x) (hx:ρ x= .pointer (some ⟨g,off,none⟩)) (hm:HasB L g cs T)
  (hv:(cs.drop off).take n=vs) (hl:vs.length=n):QV P w0 o ρ L (.agg vs.toArray):=
 q_of fun w hw=>by
  simp only [execOp,ho,hx,Instr.loadAt,Instr.sureAddr]
  exact qgt (qeh hi hl fun j v hj=>by rw [HasB.cell hw hm];exact qc2 hv j v hj)
theorem q47 {t:TypeId} {n:Nat} {hi:qcq P t=some (false,n)} {x:Operand} {g off:Nat} {cs:List Value} {v:Value} {T:TypeId} (ho:o.op= .load t x) (hx:ρ x= .pointer (some ⟨g,off,none⟩)) (hm:HasB L g cs T)
  (hv:cs[off]? =some v):QV P w0 o ρ L v:=
 q_of fun w hw=>by
  simp only [execOp,ho,hx,Instr.loadAt,Instr.sureAddr]
  exact qgt (qed hi (by rw [HasB.cell hw hm];exact hv))
theorem qww {t:TypeId} {n:Nat} {hi:qcq P t=some (false,n)} {x:Operand} {g off:Nat} {v:Value} (ho:o.op= .load t x) (hx:ρ x= .pointer (some ⟨g,off,none⟩)) (hg:g<w0.heap.size)
  (hc:w0.cell? ⟨g,off,none⟩=some v):QV P w0 o ρ L v:=
 q_of fun w hw=>by
  simp only [execOp,ho,hx,Instr.loadAt,Instr.sureAddr]
  exact qgt (qed hi (by rw [hw.below.cell (p:=⟨g,off,none⟩) hg];exact hc))
def isFn (P:Program) (f:FuncId):Bool:=match P.funcs[f]? with |some fn=> !(fn.name== "runtime.NumGoroutine")&& !fn.body.isNone |none=>false
theorem qbk {f:FuncId} (h:isFn P f=true) (args:Array Value) (w:World):(callFunc f args).run P w= .ok (.enter f args) w:=by
 unfold isFn at h
 split at h
 ·rename_i fn hf
  simp only [Bool.and_eq_true,Bool.not_eq_true'] at h
  have h1:fn.name≠ "runtime.NumGoroutine":=by simpa using h.1
  have h2:¬fn.body=none:=fun e=>by rw [e] at h;simp at h
  simp [callFunc,hf,h1,h2]
 ·cases h
theorem qlo {c:Call} {f:FuncId} (ho:o.op= .call c) (hc:c.callee= .value (.func f)) (hρ:ρ (.func f)= .func (.func f) #[] #[]) (w:World):(execOp ρ o).run P w=(callFunc f (c.args.map ρ)).run P w:=by
 simp only [execOp,ho,resolve,hc,hρ,Deferred.ofValue,Sem.run_bind]
 simp [invoke,go_sem]
theorem qmp {c:Call} {x:Operand} {f:FuncId} {cap:Array Value} (ho:o.op= .call c) (hc:c.callee= .value x) (hx:ρ x= .func (.func f) #[] cap) (w:World):(execOp ρ o).run P w=(callFunc f (c.args.map ρ++cap)).run P w:=by
 simp only [execOp,ho,resolve,hc,hx,Deferred.ofValue,Sem.run_bind]
 simp [invoke,go_sem]
theorem z7q {c:Call} {f:FuncId} {hf:isFn P f=true} {v:Value} {args:Array Value} (ho:o.op= .call c) (hc:c.callee= .value (.func f)) (hρ:ρ (.func f)= .func (.func f) #[] #[]) (ha:c.args.map ρ=args) (h:Pure P f args v):QV P w0 o ρ L v:=
 fun w hw=>by
  rw [qlo ho hc hρ w,ha,qbk hf]
  exact ⟨rfl,h w⟩
theorem z2s {c:Call} {f:FuncId} {hf:isFn P f=true} {v:Value} {args:Array Value} (ho:o.op= .call c) (hc:c.callee= .value (.func f)) (hρ:ρ (.func f)= .func (.func f) #[] #[]) (ha:c.args.map ρ=args)
  (h:∀w,Own w0 L w→Calls P f args w fun e w'=>e= .returned v∧Below w.heap.size w w'):QV P w0 o ρ L v:=
 fun w hw=>by
  rw [qlo ho hc hρ w,ha,qbk hf]
  exact ⟨rfl,h w hw⟩
theorem qjl {t:TypeId} {n:Nat} (h:qcq P t=some (true,n)) {cs vs:List Value} {off:Nat} (hv:(cs.drop off).take n=vs) (w:World):(part t cs.toArray off).run P w= .ok (.agg vs.toArray) w:=by
 simp only [part,Sem.run_bind,ql1 h w,qde h w,Result.andThen_ok,if_true]
 have:cs.toArray.extract off (off+n)=vs.toArray:=by
  rw [←hv];simp [List.extract_eq_take_drop,Nat.add_sub_cancel_left]
 rw [this];rfl
theorem qhk {t:TypeId} {n:Nat} (h:qcq P t=some (false,n)) {cs:List Value} {v:Value} {off:Nat} (hv:cs[off]? =some v) (w:World):(part t cs.toArray off).run P w= .ok v w:=by
 simp only [part,Sem.run_bind,ql1 h w,Result.andThen_ok,Bool.false_eq_true,if_false]
 simp [hv]
theorem qm5 {t i off:Nat} {b:Bool} {n:Nat} (h:qno P t i=some (off,b,n)):∃fs f,P.underlying t=some (.struct fs)∧fs[i]? =some f∧f.offset=off∧qcq P f.type=some (b,n):=by
 unfold qno at h
 split at h
 ·rename_i fs hu
  simp only [Option.bind_eq_some_iff,Option.map_eq_some_iff,Prod.mk.injEq] at h
  obtain ⟨f,hf,x,hx,h1,h2,h3⟩:=h
  obtain ⟨x1,x2⟩:=x
  exact ⟨fs,f,hu,hf,h1,by rw [hx];simp_all⟩
 ·cases h
theorem qox {t i off n:Nat} {hi:qno P t i=some (off,true,n)} {x:Operand} {cs vs:List Value} (ho:o.op= .field t x i) (hx:ρ x= .agg cs.toArray) (hv:(cs.drop off).take n=vs):QV P w0 o ρ L (.agg vs.toArray):=
 q_of fun w _=>by
  obtain ⟨fs,f,h1,h2,h3,h4⟩:=qm5 hi
  subst h3
  simp only [execOp,ho,hx]
  refine qgt ?_
  simp only [Instr.field,Sem.run_bind,run_underlying h1 w,Result.andThen_ok,h2,asAgg]
  exact qjl h4 hv w
theorem qo0 {t i off n:Nat} {hi:qno P t i=some (off,false,n)} {x:Operand} {cs:List Value} {v:Value} (ho:o.op= .field t x i) (hx:ρ x= .agg cs.toArray) (hv:cs[off]? =some v):QV P w0 o ρ L v:=
 q_of fun w _=>by
  obtain ⟨fs,f,h1,h2,h3,h4⟩:=qm5 hi
  subst h3
  simp only [execOp,ho,hx]
  refine qgt ?_
  simp only [Instr.field,Sem.run_bind,run_underlying h1 w,Result.andThen_ok,h2,asAgg]
  exact qhk h4 hv w
theorem qk_ {t i off n:Nat} {b:Bool} {hi:qno P t i=some (off,b,n)} {x:Operand} {g k:Nat} (ho:o.op= .fieldAddr t x i) (hn:Nat.beq n 0=false) (hx:ρ x= .pointer (some ⟨g,k,none⟩)):QV P w0 o ρ L (.pointer (some ⟨g,k+off,none⟩)):=
 q_of fun w _=>by
  obtain ⟨fs,f,h1,h2,h3,h4⟩:=qm5 hi
  subst h3
  have hn':n≠0:=fun e=>by rw [e] at hn;simp at hn
  simp only [execOp,ho,hx]
  refine qgt ?_
  simp only [Instr.fieldAt,Sem.run_bind,run_underlying h1 w,Result.andThen_ok,h2,Instr.sureAddr,Sem.run_pure,fieldPlace,qde h4 w,hn',if_false,qds]
theorem qu1 {x:Operand} {vs:List Value} {v:Value} {i:Nat} (ho:o.op= .extract x i) (hx:ρ x= .tuple vs.toArray) (hv:vs[i]? =some v):QV P w0 o ρ L v:=
 q_of fun w _=>by
  simp only [execOp,ho,hx]
  refine qgt ?_
  simp [Instr.extract,hv]
theorem qm0 {x:Operand} {a:Addr} (ho:o.op= .nilCheck x) (hx:ρ x= .pointer (some a)):QV P w0 o ρ L (.pointer (some a)):=
 q_of fun w _=>by simp only [execOp,ho,hx];rfl
theorem q3t {c x y:Operand} {b:Bool} {v:Value} (ho:o.op= .pick c x y) (hc:ρ c= .bool b) (hb:b=true) (hv:ρ x=v):QV P w0 o ρ L v:=
 q_of fun w _=>by subst hb;subst hv;simp only [execOp,ho,hc];rfl
theorem q3_ {c x y:Operand} {b:Bool} {v:Value} (ho:o.op= .pick c x y) (hc:ρ c= .bool b) (hb:b=false) (hv:ρ y=v):QV P w0 o ρ L v:=
 q_of fun w _=>by subst hb;subst hv;simp only [execOp,ho,hc];rfl
theorem qqd {fn:Fn} {a b:Array Operand} (ho:o.op= .makeFunc fn a b):QV P w0 o ρ L (.func fn (a.map ρ) (b.map ρ)):=
 q_of fun w _=>by simp only [execOp,ho];rfl
def qdy (cs:List Value) (off:Nat) (vs:List Value):List Value:=cs.take off++(vs++cs.drop (off+vs.length))
def qpu (places:List (Nat×Nat)):List Value→List (Nat×Value)→Option (List Value)
 |cs,[]=>some cs
 |cs,(i,v)::r=>match places[i]? with
  |none=>none
  |some (off,n)=>bif Nat.beq v.cells.size n&&Nat.ble (off+v.cells.size) cs.length then qpu places (qdy cs off v.cells.toList) r else none
structure BI (P:Program) (t:TypeId) (z:List Value) (pl:List (Nat×Nat)):Prop where
 zero:qdg P t=some (.agg z.toArray)
 places:∀w,(do match ←underlying t with
  | .struct fields=>fields.mapM fun f=>do pure (f.offset,←sizeOf f.type)
  |_=>stuck "":Sem (Array (Nat×Nat))).run P w= .ok pl.toArray w
theorem qjn (vs:List Value):∀(cs:Array Value) (off:Nat),off+vs.length≤cs.size→
  vs.zipIdx.foldl (fun (cs:Array Value) (x:Value×Nat)=>cs.setIfInBounds (off+x.2) x.1) cs=(qdy cs.toList off vs).toArray:=by
 intro cs off h
 apply Array.ext_getElem?
 intro i
 have key:∀(vs:List Value) (k:Nat) (cs:Array Value),off+k+vs.length≤cs.size→
   ((vs.zipIdx k).foldl (fun (cs:Array Value) (x:Value×Nat)=>cs.setIfInBounds (off+x.2) x.1) cs)[i]? =if off+k≤i∧i<off+k+vs.length then vs[i - (off+k)]? else cs[i]? :=by
  intro vs
  induction vs with
  |nil=>
   intro k cs hk
   simp only [List.zipIdx_nil,List.foldl_nil,List.length_nil]
   rw [if_neg (by omega)]
  |cons v r ih=>
   intro k cs hk
   simp only [List.length_cons] at hk
   simp only [List.zipIdx_cons,List.foldl_cons]
   rw [ih (k+1) (cs.setIfInBounds (off+k) v) (by rw [Array.size_setIfInBounds];omega)]
   by_cases e:off+k=i
   ·subst e
    rw [if_neg (by omega),if_pos (by simp),Array.getElem?_setIfInBounds_self_of_lt (by omega)]
    simp
   ·rw [Array.getElem?_setIfInBounds_ne e]
    by_cases c:off+k≤i∧i<off+k+(r.length+1)
    ·rw [if_pos (by omega),if_pos (by simpa using c),show i - (off+k)=(i - (off+(k+1)))+1 from by omega,List.getElem?_cons_succ]
    ·rw [if_neg (by omega),if_neg (by simpa using c)]
 have:=key vs 0 cs (by simpa using h)
 simp only [Nat.add_zero] at this
 rw [this]
 rw [show ((qdy cs.toList off vs).toArray)[i]? =(qdy cs.toList off vs)[i]? from by simp]
 unfold qdy
 rw [List.getElem?_append]
 have hlen:(cs.toList.take off).length=off:=by simp;omega
 rw [hlen]
 by_cases c:i<off
 ·rw [if_neg (by omega),if_pos c];simp [List.getElem?_take,c]
 ·rw [if_neg c,List.getElem?_append]
  by_cases d:i - off<vs.length
  ·rw [if_pos (by omega),if_pos d]
  ·rw [if_neg (by omega),if_neg d,List.getElem?_drop,show off+vs.length+(i - off - vs.length)=i from by omega];simp
theorem qv9 (pl:List (Nat×Nat)):∀(parts:List (Nat×Value)) (cs cs':List Value),qpu pl cs parts=some cs'→Instr.fill (pl.toArray[·]?) cs.toArray parts=some cs'.toArray
 |[],cs,cs',h=>by simp only [qpu,Option.some.injEq] at h;subst h;rfl
 |(i,v)::r,cs,cs',h=>by
  simp only [qpu] at h
  cases hp:pl[i]? with
  |none=>simp [hp] at h
  |some q=>
   obtain ⟨off,n⟩:=q
   simp only [hp] at h
   cases hc:(Nat.beq v.cells.size n&&Nat.ble (off+v.cells.size) cs.length) with
   |false=>simp [hc] at h
   |true=>
    simp only [hc,cond_true] at h
    simp only [Bool.and_eq_true] at hc
    have h1:=Nat.eq_of_beq_eq_true hc.1
    have h2:=Nat.le_of_ble_eq_true hc.2
    simp only [Instr.fill,List.getElem?_toArray,hp]
    rw [if_neg (by simp [h1];omega)]
    have h3:=qjn v.cells.toList cs.toArray off (by simpa using h2)
    have h4:v.cells.zipIdx.foldl (fun (cs:Array Value) (x:Value×Nat)=>cs.setIfInBounds (off+x.2) x.1) cs.toArray=(qdy cs off v.cells.toList).toArray:=by
     rw [←h3,←Array.foldl_toList];simp
    show Instr.fill _ (v.cells.zipIdx.foldl (fun (cs:Array Value) (x:Value×Nat)=>cs.setIfInBounds (off+x.2) x.1) cs.toArray) r=_
    rw [h4]
    simpa using qv9 pl r _ _ h
theorem zcs {t:TypeId} {z:List Value} {pl:List (Nat×Nat)} {hi:BI P t z pl} {parts:Array (Nat×Operand)} {pv:List (Nat×Value)} {cs:List Value} (ho:o.op= .build t parts)
  (hp:parts.toList.map (fun x=>(x.1,ρ x.2))=pv) (hf:qpu pl z pv=some cs):QV P w0 o ρ L (.agg cs.toArray):=
 q_of fun w _=>by
  simp only [execOp,ho]
  refine qgt ?_
  have hz:(zeroValue t).run P w= .ok (.agg z.toArray) w:=by
   have hz:=hi.zero
   unfold qdg at hz
   simp only [Option.bind_eq_some_iff] at hz
   obtain ⟨i,h1,h2⟩:=hz
   simp [zeroValue,typeInfo,h1,h2,go_sem]
  have hp2:=hi.places w
  have hpv:(parts.map fun (x:Nat×Operand)=>(x.1,ρ x.2)).toList=pv:=by rw [←hp];simp
  unfold Instr.build
  rw [Sem.run_bind,hz,Result.andThen_ok]
  rw [Sem.run_bind] at hp2 ⊢
  cases hu:(underlying t).run P w with
  |halt x w'=>rw [hu] at hp2;cases hp2
  |ok d w'=>
   rw [hu,Result.andThen_ok] at hp2
   rw [Result.andThen_ok]
   cases d<;>simp only [stuck,Sem.run] at hp2<;>try (cases hp2)
   rename_i fs
   simp only [Sem.run_bind]
   rw [show (fs.mapM fun f=>do pure (f.offset,←sizeOf f.type):Sem (Array (Nat×Nat))).run P w'= .ok pl.toArray w from hp2,Result.andThen_ok]
   have hfe:=qv9 pl _ _ _ hf
   rw [←hpv] at hfe
   have:Instr.fill (fun x=>pl.toArray[x]?) (Value.agg z.toArray).cells (parts.map fun (x:Nat×Operand)=>(x.1,ρ x.2)).toList=some cs.toArray:=hfe
   show Sem.run P (match Instr.fill (fun x=>pl.toArray[x]?) (Value.agg z.toArray).cells (parts.map fun (x:Nat×Operand)=>(x.1,ρ x.2)).toList with |some cells=>pure (Value.agg cells) |_=>stuck "build: no such field, or a part of the wrong size") w=_
   rw [this]
   rfl
end
end Go.Proofs.YtilkebpcjklmfaaGreat.Own
