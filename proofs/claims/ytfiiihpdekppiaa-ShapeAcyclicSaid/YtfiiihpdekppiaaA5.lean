/- A part of the proof that vellumlaw12.ShapeAcyclic is true for every input: walks of functions that the row reaches and plain laws that they need. Conditions: none. Joined by merge.py out of B0 B1 B2 T3 T4; a part that began as a print is named P or W there and is trimmed. -/
import Derived.Test.YtfiiihpdekppiaaA1
import Derived.Test.YtfiiihpdekppiaaA4
import Derived.WalkKit
import Derived.Still
import Derived.Orders
import Derived.Maps.Own
set_option linter.unusedVariables false
set_option linter.unusedSimpArgs false
section
namespace Go.Proofs.Ytfiiihpdekppiaa
open Go
theorem sA_ {α:Type} {l:List α} {i:Nat} {a:α}:l.toArray.setIfInBounds i a=(l.set i a).toArray:=List.setIfInBounds_toArray ..
theorem sB_ {α:Type} {x b:α} {l:List α}:(x :: l).set 0 b=b :: l:=rfl
theorem sC_ {α:Type} {x b:α} {l:List α} {n:Nat}:(x :: l).set (n+1) b=x :: l.set n b:=rfl
theorem ak_ {p:Prop} (h:p):Go.Proofs.YtfiiihpdekppiaaW.PrintWords.Aside0 p:=Go.Proofs.YtfiiihpdekppiaaW.PrintWords.Aside0.mk h
inductive Cls where | W | R | Q | A | L | E
 deriving DecidableEq
def clsCall (c:Call):Cls :=
 match c.callee with
 | .builtin .len=>if c.argTypes == #[97] || c.argTypes == #[68] then .Q else .W
 | .builtin .min | .builtin .max=>.W
 | _=>.L
def clsOp:Op->Cls
 | .move _ | .assign _ | .pick .. | .nilCheck _ | .binOp .. | .unOp .. | .fieldAddr .. | .field .. | .indexAddr .. | .extract .. | .slice .. | .build .. | .index ..=>.W
 | .call c=>clsCall c
 | .load ..=>.R
 | .lookup ..=>.Q
 | .alloc _ | .box .. | .buildSlice .. | .makeMap .. | .makeSlice ..=>.A
 | _=>.L
def NoX:Exit->Act->World->Prop:=fun _ _ _=>False
theorem noLets:¬ LetsOut NoX:=fun ⟨_,_,h⟩=>h
def Ext (w w':World):Prop:=w.heap.size<=w'.heap.size/\∀ k,k < w.heap.size->w'.heap[k]?=w.heap[k]?
theorem Ext.alloc (w:World) (o:Obj):Ext w (w.alloc o):=⟨by simp,fun k hk=>heap_alloc_old w o hk⟩
inductive RO {α:Type}:Sem α->Prop
 | pure (a:α):RO (.pure a)
 | load (m:Mode) (a:Addr) (k:Value->Sem α) (h:∀ v,RO (k v)):RO (.load m a k)
 | program (k:Program->Sem α) (h:∀ p,RO (k p)):RO (.program k)
 | halt (h:Halt):RO (.halt h)
theorem RO.bind {α β:Type} {x:Sem α} {f:α->Sem β} (hx:RO x) (hf:∀ a,RO (f a)):RO (x >>= f):=by
 induction hx with
 | pure a=>exact hf a
 | load m a k _ ih=>exact .load m a _ ih
 | program k _ ih=>exact .program _ ih
 | halt h=>exact .halt h
theorem viewLoad_ext {p:Program} {w w':World} (he:Ext w w') {at_:Addr} {u:TypeId} {k:Addr} {b:Bool} {r:Value × List Addr} (h:w.viewLoad p at_ u k b=.ok r):w'.viewLoad p at_ u k b=.ok r:=by
 have hs:w.seen p at_ u k b=w'.seen p at_ u k b∨w.heap[at_.block]?=none:=by
  rcases Nat.lt_or_ge at_.block w.heap.size with hlt | hge
  ·left
   unfold World.seen
   rw [he.2 _ hlt]
  ·right;exact Array.getElem?_eq_none hge
 rcases hs with hs | hs
 ·unfold World.viewLoad at h ⊢
  rw [<-hs];exact h
 ·exfalso
  have:∀ x,w.seen p at_ u k b≠.ok x:=by
   intro x hx
   unfold World.seen at hx
   simp only [hs,bind,Except.bind] at hx
   split at hx
   ·cases hx
   ·split at hx
    ·split at hx
     ·split at hx
      ·cases hx
      ·cases hx
     ·cases hx
    ·cases hx
  unfold World.viewLoad at h
  cases hc:w.seen p at_ u k b with
  | ok x=>exact this x hc
  | error e=>rw [hc] at h;cases h
theorem RO.run {α:Type} {s:Sem α} (h:RO s) {P:Program} {w w1:World} {x:α} (hr:s.run P w=.ok x w1):w1=w/\∀ w',Ext w w'->s.run P w'=.ok x w':=by
 induction h with
 | pure a=>simp only [Sem.run,Result.ok.injEq] at hr;exact ⟨hr.2.symm,fun w' _=>by simp [Sem.run,hr.1]⟩
 | load m a k _ ih =>
  simp only [Sem.run] at hr
  cases hc:w.cell? a with
  | some v =>
   simp only [hc] at hr
   obtain ⟨h1,h2⟩:=ih v hr
   refine ⟨h1,fun w' he=>?_⟩
   have hlt:=World.block_lt_of_cell? w a hc
   have hc':w'.cell? a=some v:=by rw [World.cell?_of_block (w:=w) (he.2 _ hlt)];exact hc
   simp only [Sem.run,hc']
   exact h2 w' he
  | none =>
   simp only [hc] at hr
   cases hf:w.farLoad P a (m == .atomic) with
   | error e=>rw [hf] at hr;simp at hr
   | ok r =>
    obtain ⟨v,ad⟩:=r
    simp only [hf] at hr
    obtain ⟨h1,h2⟩:=ih v hr
    refine ⟨h1,fun w' he=>?_⟩
    unfold World.farLoad at hf
    cases hb:w.heap[a.block]? with
    | none=>simp [hb] at hf
    | some o =>
     have hlt:a.block < w.heap.size:=(Array.getElem?_eq_some_iff.1 hb).1
     have hb':w'.heap[a.block]?=some o:=by rw [he.2 _ hlt];exact hb
     have hc':w'.cell? a=none:=by rw [World.cell?_of_block (w:=w) (he.2 _ hlt)];exact hc
     have hf':w'.farLoad P a (m == .atomic)=.ok (v,ad):=by
      unfold World.farLoad
      rw [hb']
      rw [hb] at hf
      cases o <;> simp only [] at hf ⊢ <;> try (cases hf)
      case view at_ u =>
       cases hv:w.viewLoad P at_ u a (m == .atomic) with
       | error e=>rw [hv] at hf;cases hf
       | ok r =>
        rw [hv] at hf
        rw [viewLoad_ext he hv]
        exact hf
     simp only [Sem.run,hc',hf']
     exact h2 w' he
 | program k _ ih =>
  simp only [Sem.run] at hr
  obtain ⟨h1,h2⟩:=ih P hr
  exact ⟨h1,fun w' he=>by simp only [Sem.run];exact h2 w' he⟩
 | halt h=>simp only [Sem.run] at hr;cases hr
theorem ro_typeInfo (t:TypeId):RO (typeInfo t):=by
 unfold typeInfo
 refine RO.bind (.program _ fun p=>.pure p) fun p=>?_
 split
 ·exact .pure _
 ·exact .halt _
theorem ro_loadCells (a:Addr):∀ (n i:Nat) (acc:Array Value),RO (loadCellsFrom a i n acc)
 | 0,_,acc=>.pure acc
 | n+1,i,acc=>RO.bind (.load _ _ _ fun v=>.pure v) fun v=>ro_loadCells a n (i+1) (acc.push v)
theorem ro_underlying (t:TypeId):RO (underlying t):=by
 unfold underlying
 refine RO.bind (.program _ fun p=>.pure p) fun p=>?_
 split
 ·exact .pure _
 ·exact .halt _
theorem ro_load (t:TypeId) (x:Value):RO (Instr.loadAt t x):=by
 unfold Instr.loadAt
 refine RO.bind ?_ fun a=>?_
 ·unfold Instr.sureAddr
  split
  ·exact .pure _
  ·exact .halt _
 ·unfold loadVar
  refine RO.bind ?_ fun b=>?_
  ·unfold isAgg
   refine RO.bind (ro_underlying t) fun d=>?_
   split <;> exact .pure _
  ·split
   ·exact RO.bind (RO.bind (ro_typeInfo t) fun i=>.pure _) fun n=>RO.bind (ro_loadCells _ _ _ _) fun cs=>.pure _
   ·exact .load _ _ _ fun v=>.pure v
theorem load_ext {P:Program} {o:Oper} (ho:clsOp o.op=.R) {ρ:Operand->Value} {w w':World} {v:Value} (h:(execOp ρ o).run P w=.ok (.value v) w) (he:Ext w w'):(execOp ρ o).run P w'=.ok (.value v) w':=by
 have:RO (execOp ρ o):=by
  obtain ⟨dst,op,type,pos,after,guard⟩:=o
  cases op
  case load t a=>exact RO.bind (ro_load t (ρ a)) fun v=>.pure _
  case call c =>
   exfalso
   simp only [clsOp,clsCall] at ho
   split at ho <;> first | (split at ho <;> cases ho) | cases ho
  all_goals (simp [clsOp] at ho)
 exact (this.run h).2 w' he
section
variable {P : Program} {ops : Array Oper} {S : World → Prop} {fl : List Nat}
def cls (fl:List Nat) (i:Nat) (o:Oper):Cls:=if fl.contains i then .W else if fl.contains (1000+i) then .A else if fl.contains (2000+i) then .E else clsOp o.op
def YieldsS (P:Program) (ops:Array Oper) (S:World->Prop) (o:Oper) (v:Value) (a:Act):Prop :=
 (Region.wanted o (yielded ops a.tmps)=true/\∀ w,S w->(execOp a.eval o).run P w=.ok (.value v) w)∨(Region.wanted o (yielded ops a.tmps)=false/\v=undef)
theorem YieldsS.of_same {o:Oper} {v:Value} {a a':Act} (hy:YieldsS P ops S o v a) (he:execOp a'.eval o=execOp a.eval o)
  (hw:Region.wanted o (yielded ops a'.tmps)=Region.wanted o (yielded ops a.tmps)):YieldsS P ops S o v a':=by
 unfold YieldsS at *
 rw [he,hw]
 exact hy
def YieldsW (P:Program) (ops:Array Oper) (w:World) (o:Oper) (v:Value) (a:Act):Prop :=
 (Region.wanted o (yielded ops a.tmps)=true/\(execOp a.eval o).run P w=.ok (.value v) w)∨(Region.wanted o (yielded ops a.tmps)=false/\v=undef)
theorem YieldsW.of_same {w:World} {o:Oper} {v:Value} {a a':Act} (hy:YieldsW P ops w o v a) (he:execOp a'.eval o=execOp a.eval o)
  (hw:Region.wanted o (yielded ops a'.tmps)=Region.wanted o (yielded ops a.tmps)):YieldsW P ops w o v a':=by
 unfold YieldsW at *
 rw [he,hw]
 exact hy
theorem Ext.refl (w:World):Ext w w:=⟨Nat.le_refl _,fun _ _=>rfl⟩
theorem Ext.trans {a b c:World} (h:Ext a b) (k:Ext b c):Ext a c:=⟨Nat.le_trans h.1 k.1,fun i hi=>(k.2 i (Nat.lt_of_lt_of_le hi h.1)).trans (h.2 i hi)⟩
def YieldsE (P:Program) (ops:Array Oper) (w:World) (o:Oper) (v:Value) (a:Act):Prop :=
 (Region.wanted o (yielded ops a.tmps)=true/\∀ w',Ext w w'->(execOp a.eval o).run P w'=.ok (.value v) w')∨(Region.wanted o (yielded ops a.tmps)=false/\v=undef)
theorem YieldsE.of_same {w:World} {o:Oper} {v:Value} {a a':Act} (hy:YieldsE P ops w o v a) (he:execOp a'.eval o=execOp a.eval o)
  (hw:Region.wanted o (yielded ops a'.tmps)=Region.wanted o (yielded ops a.tmps)):YieldsE P ops w o v a':=by
 unfold YieldsE at *
 rw [he,hw]
 exact hy
theorem YieldsE.ext {w w':World} {o:Oper} {v:Value} {a:Act} (hy:YieldsE P ops w o v a) (hx:Ext w w'):YieldsE P ops w' o v a:=by
 rcases hy with ⟨h1,h2⟩ | h
 ·exact .inl ⟨h1,fun w'' h'=>h2 w'' (hx.trans h')⟩
 ·exact .inr h
def loud (P:Program) (ops:Array Oper) (o:Oper) (K:Act->World->Prop) (a:Act) (w:World):Prop :=
 if Region.wanted o (yielded ops a.tmps) then o.wp P a w K NoX else K (a.put o.dst undef) w
def clause (P:Program) (ops:Array Oper) (S:World->Prop) (fl:List Nat) (i:Nat) (o:Oper) (K:Act->World->Prop) (a:Act) (w:World):Prop :=
 S w/\match cls fl i o with
 | .W=>∃ v,YieldsS P ops S o v a/\K (a.put o.dst v) w
 | .R | .Q=>∃ v,YieldsW P ops w o v a/\K (a.put o.dst v) w
 | .E=>∃ v,YieldsE P ops w o v a/\K (a.put o.dst v) w
 | .A=>loud P ops o (fun a' w'=>Ext w w'/\S w'/\K a' w') a w
 | .L=>loud P ops o (fun a' w'=>S w'/\K a' w') a w
def wpT (P:Program) (ops:Array Oper) (S:World->Prop) (fl:List Nat) (Q:Act->World->Prop):Nat->List Oper->Act->World->Prop
 | _,[],a,w=>Q a w
 | i,o :: rest,a,w=>clause P ops S fl i o (wpT P ops S fl Q (i+1) rest) a w
def wpI (P:Program) (ops:Array Oper) (S:World->Prop) (fl:List Nat) (Q:Act->World->Prop):List Nat->Act->World->Prop
 | [],a,w=>Q a w
 | i :: rest,a,w=>match ops[i]? with
  | none=>False
  | some o=>clause P ops S fl i o (wpI P ops S fl Q rest) a w
theorem loud_mono {o:Oper} {K K':Act->World->Prop} {a:Act} {w:World} (h:∀ a w,K a w->K' a w) (hh:loud P ops o K a w):loud P ops o K' a w:=by
 unfold loud at *
 split
 ·rename_i hw;rw [if_pos hw] at hh;exact Oper.wp_mono h hh
 ·rename_i hw;rw [if_neg hw] at hh;exact h _ _ hh
theorem clause_mono {i:Nat} {o:Oper} {K K':Act->World->Prop} (h:∀ a w,K a w->K' a w) {a:Act} {w:World} (hh:clause P ops S fl i o K a w):clause P ops S fl i o K' a w:=by
 unfold clause at *
 refine ⟨hh.1,?_⟩
 have hh:=hh.2
 cases hc:cls fl i o <;> simp only [hc] at hh ⊢
 ·obtain ⟨v,h1,h2⟩:=hh;exact ⟨v,h1,h _ _ h2⟩
 ·obtain ⟨v,h1,h2⟩:=hh;exact ⟨v,h1,h _ _ h2⟩
 ·obtain ⟨v,h1,h2⟩:=hh;exact ⟨v,h1,h _ _ h2⟩
 ·exact loud_mono (fun a' w' h'=>⟨h'.1,h'.2.1,h _ _ h'.2.2⟩) hh
 ·exact loud_mono (fun a' w' h'=>⟨h'.1,h _ _ h'.2⟩) hh
 ·obtain ⟨v,h1,h2⟩:=hh;exact ⟨v,h1,h _ _ h2⟩
def commutes (ops:Array Oper) (fl:List Nat) (i:Nat) (oi:Oper) (j:Nat) (oj:Oper):Bool :=
 oi.apart ops oj && (match cls fl i oi,cls fl j oj with
  | .W,_=>true
  | _,.W=>true
  | .R,.R=>true
  | .E,.R=>true
  | .R,.E=>true
  | .E,.Q=>true
  | .Q,.E=>true
  | .E,.E=>true
  | .E,.A=>true
  | .R,.Q=>true
  | .Q,.R=>true
  | .Q,.Q=>true
  | .R,.A=>!fl.contains i
  | _,_=>false)
theorem loud_put {oi oj:Oper} {K:Act->World->Prop} {a:Act} {w:World} (hap:oi.apart ops oj=true) (hsi:∀ cs b,oi.op≠.select cs b) (hsj:∀ cs b,oj.op≠.select cs b)
  {v:Value} (h:loud P ops oj K (a.put oi.dst v) w) :
  loud P ops oj (fun a' w'=>(execOp a'.eval oi=execOp a.eval oi/\Region.wanted oi (yielded ops a'.tmps)=Region.wanted oi (yielded ops a.tmps))/\K (a'.put oi.dst v) w') a w:=by
 obtain ⟨h1,h2,h3⟩:=Oper.apart_spec hap
 have keep:∀ u,execOp (a.put oj.dst u).eval oi=execOp a.eval oi/\Region.wanted oi (yielded ops (a.put oj.dst u).tmps)=Region.wanted oi (yielded ops a.tmps):=fun u =>
  ⟨execOp_put oi hsi a oj.dst u h3,wanted_put oi a oj.dst u h3⟩
 unfold loud at *
 rw [wanted_put oj a oi.dst v h1] at h
 split
 ·rename_i hw
  rw [if_pos hw] at h
  unfold Oper.wp at *
  rw [execOp_put oj hsj a oi.dst v h1] at h
  generalize (execOp a.eval oj).run P w=r at *
  cases r with
  | ok n w' =>
   cases n <;> simp only [Oper.upon] at h ⊢
   case value u=>exact ⟨keep u,by rw [<-Act.put_comm a v u h2];exact h⟩
   case skip=>exact ⟨keep _,by rw [<-Act.put_comm a v undef h2];exact h⟩
   case defer d =>
    refine ⟨⟨(execOp_put oi hsi { a with defers:=d :: a.defers } oj.dst undef h3).trans rfl,(wanted_put oi { a with defers:=d :: a.defers } oj.dst undef h3).trans rfl⟩,?_⟩
    rw [<-Act.put_comm _ v undef h2,<-Act.put_defers]
    exact h
   case enter f args =>
    refine Calls.mono h fun e w'' he=>?_
    cases e with
    | returned u=>exact ⟨keep u,by rw [<-Act.put_comm a v u h2];exact he⟩
    | panicked c=>exact he
    | outgrown=>exact he
   case row row args=>exact Rows.mono h fun u w'' he=>⟨keep u,by rw [<-Act.put_comm a v u h2];exact he⟩
  | halt x w' =>
   cases x <;> simp only [Oper.upon] at h ⊢
   case panic u=>exact h
 ·rename_i hw
  rw [if_neg hw] at h
  exact ⟨keep _,by rw [<-Act.put_comm a v undef h2];exact h⟩
theorem loud_some {oi oj:Oper} {K:Act->World->Prop} {a:Act} {w:World} (hap:oi.apart ops oj=true) (hsj:∀ cs b,oj.op≠.select cs b)
  (h:loud P ops oi K a w) :
  ∃ a' w',K a' w'/\execOp a'.eval oj=execOp a.eval oj/\Region.wanted oj (yielded ops a'.tmps)=Region.wanted oj (yielded ops a.tmps):=by
 obtain ⟨h1,h2,h3⟩:=Oper.apart_spec hap
 have keep:∀ u,execOp (a.put oi.dst u).eval oj=execOp a.eval oj/\Region.wanted oj (yielded ops (a.put oi.dst u).tmps)=Region.wanted oj (yielded ops a.tmps):=fun u =>
  ⟨execOp_put oj hsj a oi.dst u h1,wanted_put oj a oi.dst u h1⟩
 unfold loud at h
 split at h
 ·unfold Oper.wp at h
  generalize (execOp a.eval oi).run P w=r at *
  cases r with
  | ok n w' =>
   cases n <;> simp only [Oper.upon] at h
   case value u=>exact ⟨_,_,h,keep u⟩
   case skip=>exact ⟨_,_,h,keep undef⟩
   case defer d=>exact ⟨_,_,h,(execOp_put oj hsj { a with defers:=d :: a.defers } oi.dst undef h1).trans rfl,(wanted_put oj { a with defers:=d :: a.defers } oi.dst undef h1).trans rfl⟩
   case enter f args =>
    obtain ⟨e,w'',fr,hR,_⟩:=h []
    cases e with
    | returned u=>exact ⟨_,_,hR,keep u⟩
    | panicked c=>exact hR.elim
    | outgrown=>exact (noLets hR).elim
   case row row args =>
    obtain ⟨v,w'',hR,_⟩:=h default []
    exact ⟨_,_,hR,keep v⟩
  | halt x w' =>
   cases x <;> simp only [Oper.upon] at h
   case panic u=>exact h.elim
 ·exact ⟨_,_,h,keep undef⟩
theorem loud_unput {oi oj:Oper} {K:Act->World->Prop} {a:Act} {w:World} (hap:oi.apart ops oj=true) (hsi:∀ cs b,oi.op≠.select cs b)
  {v:Value} {K':Act->World->Prop}
  (hK:∀ a' w',execOp a'.eval oj=execOp a.eval oj->Region.wanted oj (yielded ops a'.tmps)=Region.wanted oj (yielded ops a.tmps)->K' a' w'->K (a'.put oj.dst v) w')
  (hsj:∀ cs b,oj.op≠.select cs b)
  (h:loud P ops oi K' a w):loud P ops oi K (a.put oj.dst v) w:=by
 obtain ⟨h1,h2,h3⟩:=Oper.apart_spec hap
 have keep:∀ u,execOp (a.put oi.dst u).eval oj=execOp a.eval oj/\Region.wanted oj (yielded ops (a.put oi.dst u).tmps)=Region.wanted oj (yielded ops a.tmps):=fun u =>
  ⟨execOp_put oj hsj a oi.dst u h1,wanted_put oj a oi.dst u h1⟩
 unfold loud at *
 rw [wanted_put oi a oj.dst v h3]
 split
 ·rename_i hw
  rw [if_pos hw] at h
  unfold Oper.wp at *
  rw [execOp_put oi hsi a oj.dst v h3]
  generalize (execOp a.eval oi).run P w=r at *
  cases r with
  | ok n w' =>
   cases n <;> simp only [Oper.upon] at h ⊢
   case value u=>rw [<-Act.put_comm a u v h2];exact hK _ _ (keep u).1 (keep u).2 h
   case skip=>rw [<-Act.put_comm a undef v h2];exact hK _ _ (keep _).1 (keep _).2 h
   case defer d =>
    rw [Act.put_defers,<-Act.put_comm _ undef v h2]
    exact hK _ _ ((execOp_put oj hsj { a with defers:=d :: a.defers } oi.dst undef h1).trans rfl) ((wanted_put oj { a with defers:=d :: a.defers } oi.dst undef h1).trans rfl) h
   case enter f args =>
    refine Calls.mono h fun e w'' he=>?_
    cases e with
    | returned u=>show K ((a.put oj.dst v).put oi.dst u) w'';rw [<-Act.put_comm a u v h2];exact hK _ _ (keep u).1 (keep u).2 he
    | panicked c=>exact he
    | outgrown=>exact he
   case row row args=>exact Rows.mono h fun u w'' he=>by rw [<-Act.put_comm a u v h2];exact hK _ _ (keep u).1 (keep u).2 he
  | halt x w' =>
   cases x <;> simp only [Oper.upon] at h ⊢
   case panic u=>exact h
 ·rename_i hw
  rw [if_neg hw] at h
  rw [<-Act.put_comm a undef v h2]
  exact hK _ _ (keep _).1 (keep _).2 h
theorem yieldsS_unique {o:Oper} {v v':Value} {a:Act} {w:World} (hS:S w) (h:YieldsS P ops S o v a) (h':YieldsS P ops S o v' a):v=v':=by
 rcases h with ⟨h1,h2⟩ | ⟨h1,rfl⟩ <;> rcases h' with ⟨h3,h4⟩ | ⟨h3,rfl⟩
 ·have:=(h2 w hS).symm.trans (h4 w hS);simpa using this
 ·rw [h1] at h3;cases h3
 ·rw [h1] at h3;cases h3
 ·rfl
theorem clause_swap {i j:Nat} {oi oj:Oper} {K:Act->World->Prop} {a:Act} {w:World} (hc:commutes ops fl i oi j oj=true) (hsi:∀ cs b,oi.op≠.select cs b) (hsj:∀ cs b,oj.op≠.select cs b)
    (h:clause P ops S fl i oi (clause P ops S fl j oj K) a w):clause P ops S fl j oj (clause P ops S fl i oi K) a w:=by
  simp only [commutes,Bool.and_eq_true] at hc
  obtain ⟨hap,hcls⟩:=hc
  obtain ⟨h1,h2,h3⟩:=Oper.apart_spec hap
  have ei:∀ v,execOp (a.put oj.dst v).eval oi=execOp a.eval oi:=fun v=>execOp_put oi hsi a oj.dst v h3
  have ej:∀ v,execOp (a.put oi.dst v).eval oj=execOp a.eval oj:=fun v=>execOp_put oj hsj a oi.dst v h1
  have wi:∀ v,Region.wanted oi (yielded ops (a.put oj.dst v).tmps)=Region.wanted oi (yielded ops a.tmps):=fun v=>wanted_put oi a oj.dst v h3
  have wj:∀ v,Region.wanted oj (yielded ops (a.put oi.dst v).tmps)=Region.wanted oj (yielded ops a.tmps):=fun v=>wanted_put oj a oi.dst v h1
  unfold clause at h ⊢
  obtain ⟨hS,h⟩:=h
  refine ⟨hS,?_⟩
  cases hi:cls fl i oi <;> cases hj:cls fl j oj <;> simp only [hi,hj] at h hcls ⊢
  case R.A =>
    obtain ⟨vi,yi,_,hk⟩:=h
    refine loud_mono (fun a' w' hh=>?_) (loud_put hap hsi hsj hk)
    obtain ⟨⟨he,hw⟩,hx,hS',hk'⟩:=hh
    refine ⟨hx,hS',hS',vi,?_,hk'⟩
    rcases yi with ⟨y1,y2⟩ | ⟨y1,y2⟩
    · refine .inl ⟨hw.trans y1,?_⟩
      rw [he]
      have hcl:clsOp oi.op=.R:=by
        unfold cls at hi
        have:fl.contains i=false:=by simpa using hcls
        simp only [this,Bool.false_eq_true,if_false] at hi
        split at hi
        · cases hi
        · split at hi
          · cases hi
          · exact hi
      exact load_ext hcl y2 hx
    · exact .inr ⟨hw.trans y1,y2⟩
  case E.A =>
    obtain ⟨vi,yi,_,hk⟩:=h
    refine loud_mono (fun a' w' hh=>?_) (loud_put hap hsi hsj hk)
    obtain ⟨⟨he,hw⟩,hx,hS',hk'⟩:=hh
    exact ⟨hx,hS',hS',vi,(yi.of_same he hw).ext hx,hk'⟩
  case W.A =>
    obtain ⟨vi,yi,_,hk⟩:=h
    refine loud_mono (fun a' w' hh=>?_) (loud_put hap hsi hsj hk)
    obtain ⟨⟨he,hw⟩,hx,hS',hk'⟩:=hh
    exact ⟨hx,hS',hS',vi,yi.of_same he hw,hk'⟩
  case W.L =>
    obtain ⟨vi,yi,_,hk⟩:=h
    refine loud_mono (fun a' w' hh=>?_) (loud_put hap hsi hsj hk)
    obtain ⟨⟨he,hw⟩,hS',hk'⟩:=hh
    exact ⟨hS',hS',vi,yi.of_same he hw,hk'⟩
  case A.W =>
    obtain ⟨a',w',⟨_,hS',_,vj,yj,_⟩,he,hw⟩:=loud_some hap hsj h
    have yj':YieldsS P ops S oj vj a:=yj.of_same he.symm hw.symm
    refine ⟨vj,yj',hS,?_⟩
    refine loud_unput hap hsi (fun a'' w'' he' hw' hk=>?_) hsj h
    obtain ⟨hx,hS'',_,v2,y2,hk2⟩:=hk
    rw [yieldsS_unique hS yj' (y2.of_same he'.symm hw'.symm)]
    exact ⟨hx,hS'',hk2⟩
  case L.W =>
    obtain ⟨a',w',⟨hS',_,vj,yj,_⟩,he,hw⟩:=loud_some hap hsj h
    have yj':YieldsS P ops S oj vj a:=yj.of_same he.symm hw.symm
    refine ⟨vj,yj',hS,?_⟩
    refine loud_unput hap hsi (fun a'' w'' he' hw' hk=>?_) hsj h
    obtain ⟨hS'',_,v2,y2,hk2⟩:=hk
    rw [yieldsS_unique hS yj' (y2.of_same he'.symm hw'.symm)]
    exact ⟨hS'',hk2⟩
  all_goals first
    | (cases hcls;done)
    | (obtain ⟨vi,yi,_,vj,yj,hk⟩:=h
       exact ⟨vj,yj.of_same (ej vi).symm (wj vi).symm,hS,vi,yi.of_same (ei vj) (wi vj),by rw [<-Act.put_comm a vi vj h2];exact hk⟩)
theorem wpI_front {Q:Act->World->Prop} {j:Nat} {oj:Oper} (hj:ops[j]?=some oj) (hsel:Region.noSelect ops=true):∀ (l1 l2:List Nat) (a:Act) (w:World),
  (∀ i∈l1,∀ oi,ops[i]?=some oi->commutes ops fl i oi j oj=true)->wpI P ops S fl Q (l1++j :: l2) a w->wpI P ops S fl Q (j :: (l1++l2)) a w
 | [],_,_,_,_,h=>h
 | i :: l1,l2,a,w,hc,h=>by
  simp only [List.cons_append,wpI] at h ⊢
  cases hi:ops[i]? with
  | none=>rw [hi] at h;exact h.elim
  | some oi =>
   simp only [hi] at h
   have h1:clause P ops S fl i oi (clause P ops S fl j oj (wpI P ops S fl Q (l1++l2))) a w:=clause_mono (fun a' w' h'=>by
    have:=wpI_front hj hsel l1 l2 a' w' (fun k hk=>hc k (List.mem_cons_of_mem _ hk)) h'
    simpa only [wpI,hj] using this) h
   have h2:=clause_swap (hc i List.mem_cons_self oi hi) (Region.noSelect_spec hsel i oi · · hi) (Region.noSelect_spec hsel j oj · · hj) h1
   simp only [hj]
   refine clause_mono (fun a' w' h'=>?_) h2
   simpa only [wpI,hi] using h'
def waits1 (ms:List Nat) (es:List Edge):Nat :=
 match es with
 | []=>0
 | e :: r=>if Region.binds .any e then 2 ^ e.on ||| ms.getD e.on 0 ||| waits1 ms r else waits1 ms r
def waitsFrom:List Oper->List Nat->List Nat
 | [],ms=>ms
 | o :: r,ms=>waitsFrom r (ms++[waits1 ms o.after.toList])
theorem waits1_bit {ms:List Nat} {i:Nat}:∀ {es:List Edge},(waits1 ms es).testBit i=true->∃ e∈es,Region.binds .any e=true/\(e.on=i∨(ms.getD e.on 0).testBit i=true)
 | [],h=>by simp [waits1] at h
 | e :: r,h=>by
  unfold waits1 at h
  split at h
  ·rename_i hb
   rw [Nat.testBit_or,Nat.testBit_or,Bool.or_eq_true,Bool.or_eq_true] at h
   rcases h with (h | h) | h
   ·rw [Nat.testBit_two_pow] at h;exact ⟨e,List.mem_cons_self,hb,.inl (by simpa using h)⟩
   ·exact ⟨e,List.mem_cons_self,hb,.inr h⟩
   ·obtain ⟨e',he,h1,h2⟩:=waits1_bit h
    exact ⟨e',List.mem_cons_of_mem _ he,h1,h2⟩
  ·obtain ⟨e',he,h1,h2⟩:=waits1_bit h
   exact ⟨e',List.mem_cons_of_mem _ he,h1,h2⟩
theorem waitsFrom_old:∀ (l:List Oper) (ms:List Nat) (k:Nat),k < ms.length->(waitsFrom l ms).getD k 0=ms.getD k 0
 | [],_,_,_=>rfl
 | o :: r,ms,k,hk=>by
  rw [waitsFrom,waitsFrom_old r _ k (by simp;omega)]
  simp [List.getD_eq_getElem?_getD,List.getElem?_append_left hk]
theorem waitsFrom_at:∀ (l:List Oper) (ms:List Nat) (k:Nat) (o:Oper),l[k]?=some o->(∀ e∈o.after.toList,Region.binds .any e=true->e.on < ms.length+k) ->
  (waitsFrom l ms).getD (ms.length+k) 0=waits1 (waitsFrom l ms) o.after.toList
 | [],_,_,_,h,_=>by simp at h
 | o :: r,ms,0,o',h,he=>by
  obtain rfl:o=o':=by simpa using h
  have e1:∀ es:List Edge,(∀ e∈es,Region.binds .any e=true->e.on < ms.length)->waits1 (waitsFrom (o :: r) ms) es=waits1 ms es:=by
   intro es
   induction es with
   | nil=>intro _;rfl
   | cons e es ih =>
    intro hes
    unfold waits1
    rw [ih fun e' he'=>hes e' (List.mem_cons_of_mem _ he')]
    split
    ·rename_i hb
     rw [waitsFrom_old _ _ _ (hes e List.mem_cons_self hb)]
    ·rfl
  rw [e1 _ (by simpa using he),waitsFrom,Nat.add_zero,waitsFrom_old r _ _ (by simp)]
  simp [List.getD_eq_getElem?_getD]
 | o :: r,ms,k+1,o',h,he=>by
  have:=waitsFrom_at r (ms++[waits1 ms o.after.toList]) k o' (by simpa using h) (fun e he' hb=>by have:=he e he' hb;simp;omega)
  simp only [List.length_append,List.length_cons,List.length_nil,Nat.zero_add] at this
  rw [show ms.length+(k+1)=ms.length+1+k from by omega]
  exact this
def txtOk (ops:Array Oper) (fl:List Nat):Bool :=
 let ms:=waitsFrom ops.toList []
 Region.noSelect ops && (List.range ops.size).all fun j=>match ops[j]? with
  | none=>false
  | some oj=>oj.after.toList.all (fun e=>!Region.binds .any e || decide (e.on < j)) && (List.range j).all fun i=>match ops[i]? with
   | none=>false
   | some oi=>(ms.getD j 0).testBit i || commutes ops fl i oi j oj
theorem loud_wpOp {i:Nat} {o:Oper} (hi:ops[i]?=some o) {K:Act->World->Prop} {Q:Exit->Act->World->Prop} {a:Act} {w:World} (h:loud P ops o K a w):wpOp P ops Q i K a w:=by
 unfold loud at h
 unfold wpOp
 simp only [hi]
 split
 ·rename_i hw
  rw [if_pos hw] at h
  left
  unfold Oper.wp at h ⊢
  generalize (execOp a.eval o).run P w=r at *
  cases r with
  | ok n w' =>
   cases n <;> simp only [Oper.upon] at h ⊢ <;> first
    | exact h
    | exact Calls.mono h (fun e w'' he=>by
      cases e with
      | returned v=>exact he
      | panicked c=>exact he.elim
      | outgrown=>exact (noLets he).elim)
  | halt x w' =>
   cases x <;> simp only [Oper.upon] at h ⊢
   case panic u=>exact h.elim
 ·rename_i hw
  rw [if_neg hw] at h
  exact h
theorem clause_wpOp {i:Nat} {o:Oper} (hi:ops[i]?=some o) {K:Act->World->Prop} {Q:Exit->Act->World->Prop} {a:Act} {w:World} (h:clause P ops S fl i o K a w):wpOp P ops Q i K a w:=by
 unfold clause at h
 obtain ⟨hS,h⟩:=h
 have quiet:(∃ v,YieldsW P ops w o v a/\K (a.put o.dst v) w)->wpOp P ops Q i K a w:=by
  rintro ⟨v,hy,hk⟩
  unfold wpOp
  simp only [hi]
  rcases hy with ⟨hw,hv⟩ | ⟨hw,rfl⟩
  ·simp only [hw,if_true,Oper.wp,hv,Oper.upon];exact .inl hk
  ·simp only [hw,Bool.false_eq_true,if_false];exact hk
 cases hc:cls fl i o <;> simp only [hc] at h
 ·obtain ⟨v,hy,hk⟩:=h
  refine quiet ⟨v,?_,hk⟩
  rcases hy with ⟨hw,hv⟩ | hy
  ·exact .inl ⟨hw,hv w hS⟩
  ·exact .inr hy
 ·exact quiet h
 ·exact quiet h
 ·exact loud_wpOp hi (loud_mono (fun a' w' h'=>h'.2.2) h)
 ·exact loud_wpOp hi (loud_mono (fun a' w' h'=>h'.2) h)
 ·obtain ⟨v,hy,hk⟩:=h
  refine quiet ⟨v,?_,hk⟩
  rcases hy with ⟨hw,hv⟩ | hy
  ·exact .inl ⟨hw,hv w (Ext.refl w)⟩
  ·exact .inr hy
def unl (n:Nat) (listed:Array Bool):List Nat:=(List.range n).filter fun i=>!listed.getD i true
theorem getD_flip {listed:Array Bool} {i:Nat} (hi:i < listed.size) (b b':Bool):listed.getD i b=listed.getD i b':=by
 simp [Array.getD_eq_getD_getElem?,hi]
theorem wpAny_of_wpI {Q:Act->World->Prop} (hok:txtOk ops fl=true) :
  ∀ (m:Nat) (listed:Array Bool) (a:Act) (w:World),listed.size=ops.size->(∀ j oj,ops[j]?=some oj->listed.getD j true=true->∀ e∈oj.after,Region.binds .any e=true->listed.getD e.on false=true) ->
   (unl ops.size listed).length=m->wpI P ops S fl Q (unl ops.size listed) a w->wpAny P .any ops (fun e a w=>match e with | .normal=>Q a w | _=>False) m listed a w:=by
 simp only [txtOk,Bool.and_eq_true,List.all_eq_true,List.mem_range] at hok
 obtain ⟨hsel,hrow⟩:=hok
 have hedge:∀ j oj,ops[j]?=some oj->∀ e∈oj.after,Region.binds .any e=true->e.on < j:=by
  intro j oj hj e he hb
  have hjlt:j < ops.size:=(Array.getElem?_eq_some_iff.1 hj).1
  have h1:=hrow j hjlt
  simp only [hj,Bool.and_eq_true,List.all_eq_true] at h1
  have h2:=h1.1 e (by simpa using he)
  simpa [hb] using h2
 intro m
 induction m with
 | zero =>
  intro listed a w hsz hcl hlen h
  have hnil:=List.eq_nil_of_length_eq_zero hlen
  rw [hnil] at h
  refine ⟨?_,h⟩
  refine List.eq_nil_iff_forall_not_mem.2 fun i hi=>?_
  obtain ⟨hun,o,ho,_⟩:=mem_ready.1 hi
  have:i∈unl ops.size listed:=by
   unfold unl
   rw [List.mem_filter,List.mem_range]
   exact ⟨(Array.getElem?_eq_some_iff.1 ho).1,by simp [hun]⟩
  rw [hnil] at this
  cases this
 | succ m ih =>
  intro listed a w hsz hcl hlen h
  refine ⟨fun hr=>?_,fun j hj=>?_⟩
  ·exfalso
   obtain ⟨i,r,hcons⟩:∃ i r,unl ops.size listed=i :: r:=by
    cases hu:unl ops.size listed with
    | nil=>rw [hu] at hlen;simp at hlen
    | cons i r=>exact ⟨i,r,rfl⟩
   have hi:i∈unl ops.size listed:=by rw [hcons];exact List.mem_cons_self
   have hi2:=hi
   unfold unl at hi2
   rw [List.mem_filter,List.mem_range] at hi2
   obtain ⟨hlt,hun⟩:=hi2
   have hlow:∀ k,k < i->listed.getD k true=true:=by
    intro k hk
    cases hb:listed.getD k true with
    | true=>rfl
    | false =>
     have hmem:k∈unl ops.size listed:=by
      unfold unl;rw [List.mem_filter,List.mem_range];exact ⟨by omega,by simp [hb]⟩
     have hs:(unl ops.size listed).Pairwise (· < ·):=List.Pairwise.filter _ List.pairwise_lt_range
     rw [hcons] at hs hmem
     rcases List.mem_cons.1 hmem with rfl | hm
     ·omega
     ·have:=(List.pairwise_cons.1 hs).1 k hm;omega
   have hri:i∈Region.ready .any ops listed:=by
    rw [mem_ready]
    have hi0:ops[i]?=some ops[i]:=by simp [hlt]
    refine ⟨by simpa using hun,ops[i],hi0,fun e he hb=>?_⟩
    have h1:=hedge i ops[i] hi0 e he hb
    rw [getD_flip (by omega) false true]
    exact hlow e.on h1
   rw [hr] at hri
   cases hri
  ·obtain ⟨hun,oj,hoj,hall⟩:=mem_ready.1 hj
   have hjlt:j < ops.size:=(Array.getElem?_eq_some_iff.1 hoj).1
   have hmem:j∈unl ops.size listed:=by
    unfold unl;rw [List.mem_filter,List.mem_range];exact ⟨hjlt,by simp [hun]⟩
   obtain ⟨l1,l2,hsplit⟩:=List.append_of_mem hmem
   have hs:(unl ops.size listed).Pairwise (· < ·):=List.Pairwise.filter _ List.pairwise_lt_range
   rw [hsplit] at hs
   have hl1:∀ i∈l1,i < j:=fun i hi=>(List.pairwise_append.1 hs).2.2 i hi j List.mem_cons_self
   have hl2:∀ i∈l2,j < i:=fun i hi=>(List.pairwise_cons.1 (List.pairwise_append.1 hs).2.1).1 i hi
   have hdeep:∀ k ok,ops[k]?=some ok->(∀ e∈ok.after,Region.binds .any e=true->listed.getD e.on false=true)->∀ i,((waitsFrom ops.toList []).getD k 0).testBit i=true->listed.getD i false=true:=by
    intro k
    induction k using Nat.strongRecOn with
    | _ k ihk =>
     intro ok hok hl i hbit
     have h0:ops.toList[k]?=some ok:=by simpa using hok
     have h1:=waitsFrom_at ops.toList [] k ok h0 (fun e he hb=>by simpa using hedge k ok hok e (by simpa using he) hb)
     simp only [List.length_nil,Nat.zero_add] at h1
     rw [h1] at hbit
     obtain ⟨e,he,hb,h2⟩:=waits1_bit hbit
     have he':e∈ok.after:=by simpa using he
     have hle:=hl e he' hb
     rcases h2 with rfl | h2
     ·exact hle
     ·have hlt:=hedge k ok hok e he' hb
      have hksz:k < ops.size:=(Array.getElem?_eq_some_iff.1 hok).1
      have hon:ops[e.on]?=some ops[e.on]:=by simp [show e.on < ops.size by omega]
      exact ihk e.on hlt ops[e.on] hon (hcl e.on _ hon (by rw [getD_flip (by omega) true false];exact hle)) i h2
   rw [hsplit] at h
   have hfront:=wpI_front hoj hsel l1 l2 a w (fun i hi oi hoi=>by
    have h1:=hrow j hjlt
    simp only [hoj,Bool.and_eq_true,List.all_eq_true,List.mem_range] at h1
    have h2:=h1.2 i (hl1 i hi)
    simp only [hoi,Bool.or_eq_true] at h2
    refine h2.resolve_left fun hany=>?_
    have h3:=hdeep j oj hoj hall i hany
    have h4:i∈unl ops.size listed:=by rw [hsplit];exact List.mem_append_left _ hi
    unfold unl at h4
    rw [List.mem_filter,List.mem_range] at h4
    have h6:listed.getD i true=false:=by simpa using h4.2
    rw [getD_flip (by omega) true false,h3] at h6
    cases h6) h
   simp only [wpI,hoj] at hfront
   have h7:unl ops.size (listed.setIfInBounds j true)=l1++l2:=by
    have:unl ops.size (listed.setIfInBounds j true)=(unl ops.size listed).filter fun i=>i != j:=by
     unfold unl
     rw [List.filter_filter]
     refine List.filter_congr fun i hi=>?_
     rw [List.mem_range] at hi
     by_cases hij:j=i
     ·subst hij
      have:j < listed.size:=by omega
      simp [Array.getD_eq_getD_getElem?,this]
     ·rw [getD_set_ne true hij]
      simp [Ne.symm hij]
    rw [this,hsplit,List.filter_append,List.filter_cons]
    simp only [bne_self_eq_false,Bool.false_eq_true,if_false]
    rw [List.filter_eq_self.2 (fun i hi=>by have:=hl1 i hi;simp;omega),List.filter_eq_self.2 (fun i hi=>by have:=hl2 i hi;simp;omega)]
   refine wpOp_mono (fun a' w' h'=>ih _ a' w' (by simpa using hsz) (fun k ok hok hlk e he hb=>?_) ?_ (by rw [h7];exact h')) (clause_wpOp hoj hfront)
   ·by_cases hkj:j=k
    ·subst hkj
     rw [hoj] at hok
     injection hok with hok
     subst hok
     exact getD_set_true (hall e he hb)
    ·rw [getD_set_ne true hkj] at hlk
     exact getD_set_true (hcl k ok hok hlk e he hb)
   rw [h7]
   rw [hsplit] at hlen
   simp only [List.length_append,List.length_cons] at hlen ⊢
   omega
theorem wpI_of_wpT {Q:Act->World->Prop}:∀ (l:List Oper) (k:Nat) (a:Act) (w:World),(∀ j,l[j]?=ops[k+j]?)->wpT P ops S fl Q k l a w->wpI P ops S fl Q (List.range' k l.length) a w
 | [],_,_,_,_,h=>h
 | o :: l,k,a,w,hl,h=>by
  have h0:ops[k]?=some o:=by simpa using (hl 0).symm
  simp only [List.length_cons,List.range'_succ,wpI,h0]
  exact clause_mono (fun a' w' h'=>wpI_of_wpT l (k+1) a' w' (fun j=>by have:=hl (j+1);simpa [Nat.add_assoc,Nat.add_comm 1 j] using this) h') h
end
theorem wp_region_txt {P:Program} {id:Nat} {l:List Oper} {Q:Exit->Act->World->Prop} {a:Act} {w:World} (S:World->Prop) (fl:List Nat) (hm:P.follows .mixedOrders=true) (hok:txtOk l.toArray fl=true)
  (h:wpT P l.toArray S fl (Q .normal) 0 l a w.drew):(Code.region id l.toArray true).wp P Q a w:=by
 have hunl:unl l.toArray.size (Array.replicate l.toArray.size false)=List.range' 0 l.length:=by
  rw [<-List.range_eq_range']
  unfold unl
  simp only [List.size_toArray]
  refine List.filter_eq_self.2 fun i hi=>?_
  rw [List.mem_range] at hi
  simp [Array.getD_eq_getD_getElem?,hi]
 have h1:=wpAny_of_wpI (P:=P) (ops:=l.toArray) (S:=S) (fl:=fl) (Q:=Q .normal) hok l.toArray.size (Array.replicate l.toArray.size false) a w.drew (by simp) (fun j oj hj hlj=>by
   have hlt:j < l.toArray.size:=(Array.getElem?_eq_some_iff.1 hj).1
   have hlt':j < l.length:=by simpa using hlt
   simp [Array.getD_eq_getD_getElem?,hlt'] at hlj) (by rw [hunl];simp) (by rw [hunl];exact wpI_of_wpT l 0 a _ (by simp) h)
 have h2:=wp_region_any (id:=id) (ops:=l.toArray) hm h1
 exact Code.wp_mono (fun e a w h=>by cases e <;> first | exact h | exact h.elim) h2
section
variable {P : Program} {ops : Array Oper} {S : World → Prop} {fl : List Nat} {Q : Act → World → Prop} {o : Oper} {rest : List Oper} {a : Act} {w : World} {i : Nat}
theorem wpT_nil (h:Q a w):wpT P ops S fl Q i [] a w:=h
theorem wpT_W {v:Value} (hS:S w) (hc:cls fl i o=.W) (hg:Region.wanted o (yielded ops a.tmps)=true) (hy:∀ w,S w->(execOp a.eval o).run P w=.ok (.value v) w) (h:wpT P ops S fl Q (i+1) rest (a.put o.dst v) w):wpT P ops S fl Q i (o :: rest) a w:=by
 simp only [wpT,clause,hc]
 exact ⟨hS,v,.inl ⟨hg,hy⟩,h⟩
theorem wpT_R {v:Value} (hS:S w) (hc:cls fl i o=.R∨cls fl i o=.Q) (hg:Region.wanted o (yielded ops a.tmps)=true) (hy:(execOp a.eval o).run P w=.ok (.value v) w) (h:wpT P ops S fl Q (i+1) rest (a.put o.dst v) w):wpT P ops S fl Q i (o :: rest) a w:=by
 rcases hc with hc | hc <;> simp only [wpT,clause,hc] <;> exact ⟨hS,v,.inl ⟨hg,hy⟩,h⟩
theorem wpT_A {v:Value} {ob:Obj} (hS:S w) (hc:cls fl i o=.A) (hg:Region.wanted o (yielded ops a.tmps)=true) (hy:(execOp a.eval o).run P w=.ok (.value v) (w.alloc ob)) (hS':S (w.alloc ob)) (h:wpT P ops S fl Q (i+1) rest (a.put o.dst v) (w.alloc ob)):wpT P ops S fl Q i (o :: rest) a w:=by
 simp only [wpT,clause,hc,loud]
 refine ⟨hS,?_⟩
 rw [if_pos hg]
 simp only [Oper.wp,hy,Oper.upon]
 exact ⟨Ext.alloc _ _,hS',h⟩
theorem wpT_E {v:Value} (hS:S w) (hc:cls fl i o=.E) (hg:Region.wanted o (yielded ops a.tmps)=true) (hy:∀ w',Ext w w'->(execOp a.eval o).run P w'=.ok (.value v) w') (h:wpT P ops S fl Q (i+1) rest (a.put o.dst v) w):wpT P ops S fl Q i (o :: rest) a w:=by
 simp only [wpT,clause,hc]
 exact ⟨hS,v,.inl ⟨hg,hy⟩,h⟩
theorem wpT_L (hS:S w) (hc:cls fl i o=.L) (hg:Region.wanted o (yielded ops a.tmps)=true) (h:∀ K:Act->World->Prop,(∀ a' w',S w'->wpT P ops S fl Q (i+1) rest a' w'->K a' w')->o.wp P a w K NoX):wpT P ops S fl Q i (o :: rest) a w:=by
 simp only [wpT,clause,hc,loud]
 refine ⟨hS,?_⟩
 rw [if_pos hg]
 exact h _ fun a' w' h1 h2=>⟨h1,h2⟩
theorem wpT_LA (hS:S w) (hc:cls fl i o=.A) (hg:Region.wanted o (yielded ops a.tmps)=true) (h:∀ K:Act->World->Prop,(∀ a' w',Ext w w'->S w'->wpT P ops S fl Q (i+1) rest a' w'->K a' w')->o.wp P a w K NoX):wpT P ops S fl Q i (o :: rest) a w:=by
 simp only [wpT,clause,hc,loud]
 refine ⟨hS,?_⟩
 rw [if_pos hg]
 exact h _ fun a' w' h0 h1 h2=>⟨h0,h1,h2⟩
theorem wpT_no (hS:S w) (hw:Region.wanted o (yielded ops a.tmps)=false) (hn:cls fl i o≠.A) (h:wpT P ops S fl Q (i+1) rest (a.put o.dst undef) w):wpT P ops S fl Q i (o :: rest) a w:=by
 simp only [wpT,clause]
 refine ⟨hS,?_⟩
 cases hc:cls fl i o <;> simp only []
 ·exact ⟨undef,.inr ⟨hw,rfl⟩,h⟩
 ·exact ⟨undef,.inr ⟨hw,rfl⟩,h⟩
 ·exact ⟨undef,.inr ⟨hw,rfl⟩,h⟩
 ·exact absurd hc hn
 ·unfold loud;rw [if_neg (by simp [hw])];exact ⟨hS,h⟩
 ·exact ⟨undef,.inr ⟨hw,rfl⟩,h⟩
end
end Go.Proofs.Ytfiiihpdekppiaa
end
section
namespace Go.Proofs.Ytfiiihpdekppiaa
open Go.RowKit Go.Proofs Go.Proofs.YtfiiihpdekppiaaW.PrintWords
theorem wn_ {o:Oper} {y:Nat->Option Bool} (h:o.guard=none):Region.wanted o y=true:=by simp [Region.wanted,h]
structure Chg (S:Nat->Prop) (w w':World):Prop where
 os:w'.os=w.os
 tape:w'.tape=w.tape
 output:w'.output=w.output
 size:w.heap.size<=w'.heap.size
 block:∀ k,k < w.heap.size->¬ S k->w'.heap[k]?=w.heap[k]?
theorem Chg.refl (S:Nat->Prop) (w:World):Chg S w w:=⟨rfl,rfl,rfl,Nat.le_refl _,fun _ _ _=>rfl⟩
theorem Chg.trans' {S S':Nat->Prop} {a b c:World} (h:Chg S a b) (k:Chg S' b c) (hS:∀ i,i < a.heap.size->S' i->S i):Chg S a c :=
 ⟨k.os.trans h.os,k.tape.trans h.tape,k.output.trans h.output,Nat.le_trans h.size k.size,fun i hi hn=>(k.block i (Nat.lt_of_lt_of_le hi h.size) (fun h'=>hn (hS i hi h'))).trans (h.block i hi hn)⟩
theorem Chg.drew {S:Nat->Prop} {a b:World} (h:Chg S a b):Chg S a b.drew:=⟨h.os,h.tape,h.output,h.size,h.block⟩
theorem Chg.setCell {S:Nat->Prop} {a b:World} (h:Chg S a b) {p:Addr} (hp:p.block < a.heap.size->S p.block) (u:Value):Chg S a (b.setCell p u) :=
 ⟨h.os,h.tape,h.output,by simpa [World.setCell] using h.size,fun k hk hn=>by
  rw [Below.heap_setCell b p u k (fun e=>hn (e ▸ hp (e ▸ hk)))];exact h.block k hk hn⟩
theorem Chg.grown {S:Nat->Prop} {a b c:World} (h:Chg S a b) {row:Option Nat} (hg:b.grownBy c row) (hr:∀ k,k < a.heap.size->row=some k->S k):Chg S a c :=
 ⟨hg.os.trans h.os,hg.tape.trans h.tape,hg.output.trans h.output,Nat.le_trans h.size hg.size,fun k hk hn=>by
  rw [hg.block k (Nat.lt_of_lt_of_le hk h.size) (fun e=>hn (hr k hk e.symm))];exact h.block k hk hn⟩
theorem Chg.below {a b:World} {S:Nat->Prop} (h:Below a.heap.size a b):Chg S a b:=⟨h.os,h.tape,h.output,h.size,fun k hk _=>h.block k hk⟩
theorem Chg.to_below {a b:World} {S:Nat->Prop} {B:Nat} (h:Chg S a b) (hB:B<=a.heap.size) (hS:∀ k,k < B->¬ S k):Below B a b :=
 ⟨h.os,h.tape,h.output,h.size,fun k hk=>h.block k (by omega) (hS k hk)⟩
theorem Chg.blk {S:Nat->Prop} {a b:World} (h:Chg S a b) {k:Nat} {o:Obj} (hb:a.heap[k]?=some o) (hn:¬ S k):b.heap[k]?=some o :=
 (h.block k (Array.getElem?_eq_some_iff.1 hb).1 hn).trans hb
theorem Chg.own {S:Nat->Prop} {a b:World} (h:Chg S a b) {base:Nat} {e:TypeId} {size n:Nat} {v:Value} {xs:List Value} (ho:a.ownsRow base e size v n xs) (hn:∀ k,v.ownBlock=some k->¬ S k):b.ownsRow base e size v n xs :=
 own_move ho (fun k hk=>h.block k (own_lt ho k hk) (hn k hk))
theorem heap_alloc_at (w:World) (o:Obj) {b:Nat} (h:b=w.heap.size):(w.alloc o).heap[b]?=some o:=by rw [h];exact heap_alloc_new _ _
theorem blk_lt' {w:World} {b:Nat} {o:Obj} (h:w.heap[b]?=some o):b < w.heap.size:=(Array.getElem?_eq_some_iff.1 h).1
theorem row_ne_blk {w:World} {base:Nat} {e t:TypeId} {size n k:Nat} {v:Value} {xs:List Value} {cs:Array Value} {fr:Nat × Nat} (ho:w.ownsRow base e size v n xs) (hb:w.heap[k]?=some (.cells cs t fr)) (ht:e≠t):v.ownBlock≠some k:=by
 intro hk
 obtain ⟨cells,hc⟩:=own_typed ho k hk
 rw [hc] at hb
 injection hb with hb
 injection hb with _ hb
 exact ht hb
theorem grown_blk {w w1:World} {base:Nat} {e t:TypeId} {size n k:Nat} {v:Value} {xs:List Value} {cs:Array Value} {fr:Nat × Nat} (hg:w.grownBy w1 v.ownBlock) (ho:w.ownsRow base e size v n xs) (hb:w.heap[k]?=some (.cells cs t fr)) (ht:e≠t):w1.heap[k]?=some (.cells cs t fr) :=
 (hg.block k (blk_lt' hb) (fun e'=>row_ne_blk ho hb ht e'.symm)).trans hb
theorem grown_row {w w1:World} {base base':Nat} {e e':TypeId} {size n size' n':Nat} {v v':Value} {xs xs':List Value} (hg:w.grownBy w1 v.ownBlock) (ho:w.ownsRow base e size v n xs) (ho':w.ownsRow base' e' size' v' n' xs') (ht:e'≠e):w1.ownsRow base' e' size' v' n' xs' :=
 ho'.kept hg (own_type_ne ho' ho ht)
theorem set_blk {w:World} {p:Addr} {u:Value} {k:Nat} {o:Obj} (hb:w.heap[k]?=some o) (hk:k≠p.block):(w.setCell p u).heap[k]?=some o:=(Below.heap_setCell w p u k hk).trans hb
theorem set_row {w:World} {p:Addr} {u:Value} {base:Nat} {e:TypeId} {size n:Nat} {v:Value} {xs:List Value} (ho:w.ownsRow base e size v n xs) (hk:v.ownBlock≠some p.block):(w.setCell p u).ownsRow base e size v n xs :=
 own_move ho (fun k hk'=>Below.heap_setCell w p u k (fun e=>hk (e ▸ hk')))
theorem set_here {w:World} {b i:Nat} {u:Value} {cs:Array Value} {t:TypeId} {fr:Nat × Nat} (hb:w.heap[b]?=some (.cells cs t fr)):(w.setCell ⟨b,i,none⟩ u).heap[b]?=some (.cells (cs.setIfInBounds i u) t fr):=by
 simp [World.setCell,Array.getElem?_modify,hb]
theorem blk_ne' {w:World} {a b:Nat} {cs cs':Array Value} {t t':TypeId} {fr fr':Nat × Nat} (h:w.heap[a]?=some (.cells cs t fr)) (h':w.heap[b]?=some (.cells cs' t' fr')) (ht:t≠t'):a≠b:=by
 rintro rfl
 rw [h] at h'
 injection h' with h'
 injection h' with _ h'
 exact ht h'
theorem cell_blk {w:World} {b i:Nat} {cs:Array Value} {t:TypeId} {fr:Nat × Nat} (hb:w.heap[b]?=some (.cells cs t fr)) {u:Value} (hu:cs[i]?=some u):w.cell? ⟨b,i,none⟩=some u:=by
 simp [World.cell?,hb,hu]
theorem free_blk {w:World} {b i:Nat} {cs:Array Value} {t:TypeId} (hb:w.heap[b]?=some (.cells cs t (0,0))):w.frozen? ⟨b,i,none⟩=false:=by
 simp [World.frozen?,hb]
abbrev kI:Kd Int:=Kd.int .i64
abbrev kG:Kd (List Int):=Kd.slice 3 (Kd.int .i64)
theorem C_row {w:World} {A:Option Addr} {g:List (List Int)} (h:kG.C w A g.length g) (i:Nat) (hi:i < g.length) :
  ∃ ad A0 c0,A=some ad/\w.cell? (ad.add i)=some (.slice A0 (g.getD i []).length c0)/\(g.getD i []).length<=c0/\kI.C w A0 (g.getD i []).length (g.getD i []):=by
 have:=PShapeReducible.at_L1 h i (by omega) (by omega)
 simpa [PShapeReducible.rd_L1] using this
theorem C_num {w:World} {A:Option Addr} {xs:List Int} (h:kI.C w A xs.length xs) (i:Nat) (hi:i < xs.length) :
  ∃ ad,A=some ad/\w.cell? (ad.add i)=some (.int .i64 (xs.getD i 0)):=by
 obtain ⟨ad,c,h1,h2,h3,h4⟩:=Kd.C_get h 0 (i:Int) (by omega) (by omega)
 refine ⟨ad,h1,?_⟩
 have h5:=h4 0 (.int .i64 (xs.getD i 0)) (by
  have:c=[.int .i64 (xs.getD i 0)]:=by simpa [Kd.int,Kd.scalar] using h3
  simp [this])
 simpa [Kd.int,Kd.scalar] using h5
theorem own_cell {w:World} {base g n cap:Nat} {e:TypeId} {xs:List Value} (h:w.ownsRow base e 1 (.slice (some ⟨g,0,none⟩) n cap) n xs) (i:Nat) (hi:i < n) {u:Value} (hu:xs[i]?=some u):w.cell? ⟨g,i,none⟩=some u :=
 (h.cellAt i (by omega)).trans hu
theorem own_pop {w:World} {base:Nat} {e:TypeId} {size n:Nat} {A:Option Addr} {cap:Nat} {xs ys:List Value} (h:w.ownsRow base e size (.slice A (n+1) cap) (n+1) (xs++ys)) (hy:ys.length=size) :
  ∃ b,A=some ⟨b,0,none⟩/\w.ownsRow base e size (.slice (some ⟨b,0,none⟩) n cap) n xs:=by
 rcases h.2 with ⟨h1,h2⟩ | ⟨b,cap',cur,h1,h2,h3,h4,h5,h6,h7⟩
 ·omega
 ·simp only [Value.slice.injEq] at h1
  obtain ⟨rfl,_,rfl⟩:=h1
  have hl:xs.length=n * size:=by have:=h.1;simp [hy,Nat.add_mul] at this;omega
  refine ⟨b,rfl,hl,.inr ⟨b,cap,cur,rfl,h2,h3,by omega,h5,h6,?_⟩⟩
  have h8:(cur.toList.take ((n+1) * size)).take (n * size)=xs:=by
   rw [h7,<-hl,List.take_left']
   rfl
  rwa [List.take_take,Nat.min_eq_left (by rw [Nat.add_mul];omega)] at h8
theorem own_len {w:World} {base:Nat} {e:TypeId} {size n:Nat} {v:Value} {xs:List Value} (h:w.ownsRow base e size v n xs):n<=9223372036854775807:=by
 rcases h.2 with ⟨_,h1⟩ | ⟨g',cap',cur,he,_,_,h1,h2,_⟩
 ·omega
 ·simp only [maxLen] at h2
  omega
theorem own_capn {w:World} {base:Nat} {e:TypeId} {size n cap:Nat} {A:Option Addr} {xs:List Value} (h:w.ownsRow base e size (.slice A n cap) n xs):n<=cap:=by
 rcases h.2 with ⟨h1,h2⟩ | ⟨g',cap',cur,he,_,_,h1,_⟩
 ·omega
 ·simp only [Value.slice.injEq] at he
  omega
theorem cell_alloc {w:World} {a:Addr} {v:Value} (o:Obj) (h:w.cell? a=some v):(w.alloc o).cell? a=some v:=pw_cell_below (below_alloc (Below.refl _ _) o) h
theorem step_app {P:Program} {ops:Array Oper} {o:Oper} {a:Act} {Q:Exit->Act->World->Prop} {K:Act->World->Prop} {W:World} (base:Nat) (hgd:o.guard=none) (s x:Operand) (t e:TypeId) (z:Value) (size bytes:Nat)
  (ho:o.op=.call { callee:=.builtin .append,args:=#[s,x],argTypes:=#[t,t] })
  (ht:P.underlying t=some (.slice e)) (hinfo:(P.info? e).map (fun i=>(i.zero,i.size,i.bytes))=some (some z,size,bytes)) (hz:z.cells.size=size) (hs0:0 < size) (hb0:0 < bytes)
  (v:Value) (n:Nat) (xs ys:List Value) (hs:a.eval s=v) (hx:a.eval x=.slice (some ⟨W.heap.size,0,none⟩) 1 1) (hys:ys.length=size) (h1:∀ u∈ys,u.oneCell'=true)
  (HO:W.ownsRow base e size v n xs) (hbase:base<=W.heap.size) (hl:(n+1) * bytes<=140737488355328)
  (h:∀ A c w1,w1.ownsRow base e size (.slice A (n+1) c) (n+1) (xs++ys)->W.grownBy w1 v.ownBlock->((Value.slice A (n+1) c).ownBlock=v.ownBlock∨∃ b,(Value.slice A (n+1) c).ownBlock=some b/\W.heap.size<=b)->K (a.put o.dst (.slice A (n+1) c)) w1) :
  o.wp P a (W.alloc (.cells ys.toArray e)) K Q:=by
 have hw:Region.wanted o (yielded ops a.tmps)=true:=wn_ hgd
 have:=step_append_cells (P:=P) (ops:=ops) (o:=o) (a:=a) (Q:=Q) (K:=K) (w0:=W) (W:=W) base hw s x t e z size bytes ho ht hinfo hz hs0 hb0 v n xs ys hs hx hys h1 HO (Below.refl _ _) hbase hl
  (fun v1 w1 h1 _ h2 h3=>by obtain ⟨A,c,rfl⟩:=own_slice h1;exact h A c w1 h1 h2 h3)
 rw [if_pos hw] at this
 exact this
end Go.Proofs.Ytfiiihpdekppiaa
end
section
namespace Go.Proofs.Ytfiiihpdekppiaa
open Go.RowKit Go.Proofs Go.Proofs.YtfiiihpdekppiaaW.PrintWords
open Go.ChangeMaps (setBlock heap_setBlock_same heap_setBlock_other)
def ents:Nat->List (Int × Value)->List MapEntry
 | _,[]=>[]
 | i,p :: r=>{ key:=.int .i64 p.1,val:=p.2,born:=i } :: ents (i+1) r
def mObj (l:List (Int × Value)):Obj:=.map (ents 0 l).toArray l.length
theorem ents_length:∀ (i:Nat) (l:List (Int × Value)),(ents i l).length=l.length
 | _,[]=>rfl
 | i,_ :: r=>by simp [ents,ents_length (i+1) r]
theorem ents_append:∀ (i:Nat) (l r:List (Int × Value)),ents i (l++r)=ents i l++ents (i+l.length) r
 | i,[],r=>by simp [ents]
 | i,p :: l,r=>by simp [ents,ents_append (i+1) l r,Nat.add_assoc,Nat.add_comm 1]
def mpos {β:Type}:List (Int × β)->Int->Option Nat
 | [],_=>none
 | p :: r,k=>if p.1=k then some 0 else (mpos r k).map (·+1)
theorem findNow_ents (k:Int):∀ (l:List (Int × Value)) (i j:Nat),Instr.findNow (.int .i64) (.int .i64 k) (ents j l) i=some ((mpos l k).bind fun p=>(mget l k).map fun v=>(i+p,v))
 | [],_,_=>rfl
 | p :: r,i,j=>by
  simp only [ents,Instr.findNow,Instr.sameNow,if_true]
  by_cases h:p.1=k
  ·have h1:(k == p.1)=true:=by simp [h]
   simp [mpos,mget,h]
  ·have h1:(k == p.1)=false:=by simp [Ne.symm h]
   have h2:(p.1 == k)=false:=by simp [h]
   rw [h1]
   simp only []
   rw [findNow_ents k r (i+1) (j+1)]
   simp only [mpos,h,if_false,mget,List.find?_cons,h2]
   cases mpos r k with
   | none=>rfl
   | some p'=>simp only [Option.map_some,Option.bind_some];congr 2;funext v;congr 1;omega
theorem mpos_none {β:Type} {l:List (Int × β)} {k:Int}:mpos l k=none↔mget l k=none:=by
 induction l with
 | nil=>simp [mpos,mget]
 | cons p r ih =>
  unfold mpos mget
  by_cases h:p.1=k
  ·simp [h]
  ·have h2:(p.1 == k)=false:=by simp [h]
   simp only [h,if_false,List.find?_cons,h2,Option.map_eq_none_iff]
   simpa [mget] using ih
theorem mput_new {β:Type} {l:List (Int × β)} {k:Int} {v:β} (h:mpos l k=none):mput l k v=l++[(k,v)]:=by
 induction l with
 | nil=>rfl
 | cons p r ih =>
  unfold mpos at h
  by_cases hp:p.1=k
  ·simp [hp] at h
  ·simp only [hp,if_false,Option.map_eq_none_iff] at h
   simp [mput,hp,ih h]
theorem mput_old:∀ (l:List (Int × Value)) (i j:Nat) (k:Int) (v:Value),mpos l k=some i->ents j (mput l k v)=(ents j l).modify i (fun e=>{ e with key:=.int .i64 k,val:=v })/\(mput l k v).length=l.length
 | [],_,_,_,_,h=>by simp [mpos] at h
 | p :: r,i,j,k,v,h=>by
  unfold mpos at h
  by_cases hp:p.1=k
  ·simp only [hp,if_true,Option.some.injEq] at h
   subst h
   simp [mput,hp,ents]
  ·simp only [hp,if_false,Option.map_eq_some_iff] at h
   obtain ⟨i',h1,rfl⟩:=h
   obtain ⟨h2,h3⟩:=mput_old r i' (j+1) k v h1
   simp [mput,hp,ents,h2,h3]
theorem ents_key:∀ (l:List (Int × Value)) (i j:Nat) (k:Int),mpos l k=some i->((ents j l)[i]?).map (·.key)=some (.int .i64 k)
 | [],_,_,_,h=>by simp [mpos] at h
 | p :: r,i,j,k,h=>by
  unfold mpos at h
  by_cases hp:p.1=k
  ·simp only [hp,if_true,Option.some.injEq] at h
   subst h
   simp [ents,hp]
  ·simp only [hp,if_false,Option.map_eq_some_iff] at h
   obtain ⟨i',h1,rfl⟩:=h
   have:=ents_key r i' (j+1) k h1
   simpa [ents] using this
section
variable {P : Program} {w : World} {t kt e b : Nat} {l : List (Int × Value)}
theorem check_int (b:Bool) (n:Nat) (hk:P.underlying kt=some (.int .i64)) (k:Int) (w:World):(Instr.checkKey b (n+1) kt (.int .i64 k)).run P w=.ok () w:=by
 simp [Instr.checkKey,run_underlying hk,Result.andThen]
theorem find_int (hk:P.underlying kt=some (.int .i64)) (l:List (Int × Value)) (k:Int) (w:World) :
  (Instr.findKey kt (.int .i64 k) (ents 0 l)).run P w=.ok ((mpos l k).bind fun p=>(mget l k).map fun v=>(p,v)) w:=by
 simp [Instr.findKey,run_underlying hk,findNow_ents,Result.andThen]
theorem run_look (ht:P.underlying t=some (.map kt e)) (hk:P.underlying kt=some (.int .i64)) (hb:w.heap[b]?=some (mObj l)) {z:Value} (hz:∀ w,(zeroValue e).run P w=.ok z w) (k:Int) :
  (Instr.lookup t (.map (some b)) (.int .i64 k) false).run P w=.ok ((mget l k).getD z) w:=by
 have hb':(getObj b).run P w=.ok (mObj l) w:=MapKept.run_getObj_map hb
 unfold mObj at hb'
 cases hp:mpos l k with
 | none =>
  have h0:=mpos_none.1 hp
  simp [Instr.lookup,run_underlying ht,hb',check_int _ _ hk,find_int hk,hp,h0,hz,Result.andThen]
 | some p =>
  obtain ⟨v,hv⟩:∃ v,mget l k=some v:=by
   cases hg:mget l k with
   | none=>rw [mpos_none.2 hg] at hp;cases hp
   | some v=>exact ⟨v,rfl⟩
  simp [Instr.lookup,run_underlying ht,hb',check_int _ _ hk,find_int hk,hp,hv,Result.andThen]
theorem run_look_ok (ht:P.underlying t=some (.map kt e)) (hk:P.underlying kt=some (.int .i64)) (hb:w.heap[b]?=some (mObj l)) {z:Value} (hz:∀ w,(zeroValue e).run P w=.ok z w) (k:Int) :
  (Instr.lookup t (.map (some b)) (.int .i64 k) true).run P w=.ok (.tuple #[(mget l k).getD z,.bool (mget l k).isSome]) w:=by
 have hb':(getObj b).run P w=.ok (mObj l) w:=MapKept.run_getObj_map hb
 unfold mObj at hb'
 cases hp:mpos l k with
 | none =>
  have h0:=mpos_none.1 hp
  simp [Instr.lookup,run_underlying ht,hb',check_int _ _ hk,find_int hk,hp,h0,hz,Result.andThen]
 | some p =>
  obtain ⟨v,hv⟩:∃ v,mget l k=some v:=by
   cases hg:mget l k with
   | none=>rw [mpos_none.2 hg] at hp;cases hp
   | some v=>exact ⟨v,rfl⟩
  simp [Instr.lookup,run_underlying ht,hb',check_int _ _ hk,find_int hk,hp,hv,Result.andThen]
theorem run_put (ht:P.underlying t=some (.map kt e)) (hk:P.underlying kt=some (.int .i64)) (hb:w.heap[b]?=some (mObj l)) (k:Int) (v:Value) :
  (Instr.mapUpdate t (.map (some b)) (.int .i64 k) v).run P w=.ok () (setBlock w b (mObj (mput l k v))):=by
 have hb':(getObj b).run P w=.ok (mObj l) w:=MapKept.run_getObj_map hb
 have hs:∀ o,(∀ c e f,o≠.cells c e f)->(setObj b o).run P w=.ok () (setBlock w b o):=by
  intro o _
  simp only [setObj,Sem.run,hb,mObj]
  rfl
 unfold mObj at hb'
 cases hp:mpos l k with
 | none =>
  have h0:=mpos_none.1 hp
  have h1:ents l.length [(k,v)]=[{ key:=.int .i64 k,val:=v,born:=l.length }]:=rfl
  simp [Instr.mapUpdate,run_underlying ht,hb',check_int _ _ hk,find_int hk,hp,h0,Result.andThen,hs,mput_new hp,mObj,ents_append,h1]
 | some p =>
  obtain ⟨u,hv⟩:∃ v,mget l k=some v:=by
   cases hg:mget l k with
   | none=>rw [mpos_none.2 hg] at hp;cases hp
   | some v=>exact ⟨v,rfl⟩
  obtain ⟨h2,h3⟩:=mput_old l p 0 k v hp
  have h4:=ents_key l p 0 k hp
  have hkeep:(Instr.keyThatStays (.int .i64 k) (.int .i64 k)).run P w=.ok (.int .i64 k) w:=by
   have:Instr.sameBits 10000 (.int .i64 k) (.int .i64 k)=true:=by simp [Instr.sameBits]
   simp [Instr.keyThatStays,this]
  simp [Instr.mapUpdate,run_underlying ht,hb',check_int _ _ hk,find_int hk,hp,hv,Result.andThen,h4,hkeep,hs,mObj,h2,h3]
theorem run_mlen (hb:w.heap[b]?=some (mObj l)) (ht:P.underlying t=some (.map kt e)) (ty:TypeId):(Builtin.len_ #[t] ty #[.map (some b)]).run P w=.ok (.int .i64 l.length) w:=by
 have hb':(getObj b).run P w=.ok (mObj l) w:=MapKept.run_getObj_map hb
 unfold mObj at hb'
 simp [Builtin.len_,run_underlying ht,hb',Result.andThen,ents_length,goInt]
end
theorem mget_map {β γ:Type} (f:β->γ) (l:List (Int × β)) (k:Int):mget (l.map fun p=>(p.1,f p.2)) k=(mget l k).map f:=by
 induction l with
 | nil=>rfl
 | cons p r ih =>
  unfold mget at ih ⊢
  by_cases h:p.1=k
  ·simp [h]
  ·have h2:(p.1 == k)=false:=by simp [h]
   simp only [List.map_cons,List.find?_cons,h2]
   exact ih
theorem mput_map {β γ:Type} (f:β->γ) (l:List (Int × β)) (k:Int) (v:β):mput (l.map fun p=>(p.1,f p.2)) k (f v)=(mput l k v).map fun p=>(p.1,f p.2):=by
 induction l with
 | nil=>rfl
 | cons p r ih =>
  by_cases h:p.1=k
  ·simp [mput,h]
  ·simp [mput,h,ih]
theorem mget_put {β:Type} (l:List (Int × β)) (k j:Int) (v:β):mget (mput l k v) j=if j=k then some v else mget l j:=by
 induction l with
 | nil =>
  by_cases h:j=k
  ·simp [mput,mget,h]
  ·have h1:(k == j)=false:=by simp [Ne.symm h]
   simp [mput,mget,h,h1]
 | cons p r ih =>
  by_cases hp:p.1=k
  ·by_cases h:j=k
   ·simp [mput,hp,mget,h]
   ·have h1:(k == j)=false:=by simp [Ne.symm h]
    have h2:(p.1 == j)=false:=by rw [hp];exact h1
    simp [mput,hp,mget,h,h1]
  ·unfold mget at ih ⊢
   simp only [mput,hp,if_false,List.find?_cons]
   by_cases hj:p.1=j
   ·have:j≠k:=fun e=>hp (hj.trans e)
    simp [hj,this]
   ·have h2:(p.1 == j)=false:=by simp [hj]
    simp only [h2]
    exact ih
end Go.Proofs.Ytfiiihpdekppiaa
end
section
namespace Go.Proofs.Ytfiiihpdekppiaa
open Go.RowKit Go.Proofs Go.Proofs.YtfiiihpdekppiaaW.PrintWords
def degs (g:List (List Int)) (r:List Int):Nat:=(r.map fun n=>(succs g n).length).sum
theorem predsIn_ok (n:Int):∀ (l:List Int) (p:List (List Int)),(∀ s∈l,0<=s/\s < p.length)->(∀ s:Nat,(p.getD s []).length+l.length<=1000000000) ->
  ∃ p',predsIn n l p=some p'/\p'.length=p.length/\(∀ s:Nat,(p'.getD s []).length<=(p.getD s []).length+l.length)/\∀ (s:Nat) (x:Int),x∈p'.getD s []↔x∈p.getD s []∨(x=n/\(s:Int)∈l)
 | [],p,_,_=>⟨p,rfl,rfl,by simp,by simp⟩
 | a :: l,p,h,hb=>by
  have ha:=h a (by simp)
  have hb1:=hb a.toNat
  simp only [List.length_cons] at hb hb1
  have hget:∀ s:Nat,(p.set a.toNat (p.getD a.toNat []++[n])).getD s []=if s=a.toNat then p.getD a.toNat []++[n] else p.getD s []:=fun s=>by
   rw [List.getD_eq_getElem?_getD,List.getElem?_set]
   by_cases e:a.toNat=s
   ·rw [if_pos e,if_pos (by omega),if_pos e.symm];rfl
   ·rw [if_neg e,if_neg (fun h=>e h.symm),List.getD_eq_getElem?_getD]
  have hlen:∀ s:Nat,((p.set a.toNat (p.getD a.toNat []++[n])).getD s []).length<=(p.getD s []).length+1:=fun s=>by
   rw [hget]
   split
   ·next e=>rw [e];simp
   ·omega
  obtain ⟨p',h1,h2,h3,h4⟩:=predsIn_ok n l (p.set a.toNat (p.getD a.toNat []++[n])) (fun s hs=>by rw [List.length_set];exact h s (by simp [hs])) (fun s=>by have:=hlen s;have:=hb s;omega)
  refine ⟨p',?_,by rw [h2,List.length_set],fun s=>by have:=h3 s;have:=hlen s;simp only [List.length_cons];omega,fun s x=>?_⟩
  ·rw [predsIn,if_pos ha,if_pos (by omega)]
   exact h1
  ·rw [h4,hget]
   by_cases e:s=a.toNat
   ·have e2:(s:Int)=a:=by omega
    rw [if_pos e,<-e]
    simp only [List.mem_append,List.mem_cons,List.not_mem_nil,or_false,e2,true_or,and_true]
    constructor
    ·rintro ((h | h) | h)
     ·exact .inl h
     ·exact .inr h
     ·exact .inr h.1
    ·rintro (h | h)
     ·exact .inl (.inl h)
     ·exact .inl (.inr h)
   ·have e2:(s:Int)≠a:=by omega
    rw [if_neg e]
    simp only [List.mem_cons,e2,false_or]
theorem viewLoop_ok (g:List (List Int)) (hv:ValidG g):∀ (r:List Int) (i:Nat) (m:List (Int × Int)) (p:List (List Int)),(∀ n∈r,0<=n/\n < g.length)->r.Nodup->p.length=g.length->(∀ s:Nat,(p.getD s []).length+degs g r<=1000000000) ->
  ∃ m' p',viewLoop g r i m p=some (m',p')/\p'.length=g.length/\(∀ x,mget m' x=if x∈r then some ((i+r.idxOf x:Nat):Int) else mget m x)/\∀ (s:Nat) (x:Int),x∈p'.getD s []↔x∈p.getD s []∨(x∈r/\(s:Int)∈succs g x)
 | [],i,m,p,_,_,hp,_=>⟨m,p,rfl,hp,by simp,by simp⟩
 | n :: r,i,m,p,hr,hnd,hp,hb=>by
  obtain ⟨hn1,hn2⟩:=List.nodup_cons.1 hnd
  have hd:degs g (n :: r)=(succs g n).length+degs g r:=by simp [degs]
  rw [hd] at hb
  obtain ⟨p1,a1,a2,a3,a4⟩:=predsIn_ok n (succs g n) p (fun s hs=>by rw [hp];exact succs_mem hv hs) (fun s=>by have:=hb s;omega)
  obtain ⟨m',p',b1,b2,b3,b4⟩:=viewLoop_ok g hv r (i+1) (mput m n i) p1 (fun x hx=>hr x (by simp [hx])) hn2 (by rw [a2,hp]) (fun s=>by have:=hb s;have:=a3 s;omega)
  refine ⟨m',p',?_,b2,fun x=>?_,fun s x=>?_⟩
  ·rw [viewLoop,if_pos (hr n (by simp))]
   unfold succs at a1
   rw [a1]
   exact b1
  ·rw [b3,mget_put]
   by_cases e:x=n
   ·subst e
    rw [if_neg hn1,if_pos rfl,if_pos (by simp)]
    simp
   ·by_cases hx:x∈r
    ·rw [if_pos hx,if_pos (by simp [hx]),List.idxOf_cons,show (n == x)=false from beq_eq_false_iff_ne.2 (fun h=>e h.symm)]
     simp only [cond_false]
     congr 1
     omega
    ·rw [if_neg hx,if_neg e,if_neg (by simp [hx,e])]
  ·rw [b4,a4]
   constructor
   ·rintro ((h | ⟨rfl,h⟩) | h)
    ·exact .inl h
    ·exact .inr ⟨by simp,h⟩
    ·exact .inr ⟨by simp [h.1],h.2⟩
   ·rintro (h | ⟨h1,h2⟩)
    ·exact .inl (.inl h)
    ·rcases List.mem_cons.1 h1 with rfl | h1
     ·exact .inl (.inr ⟨rfl,h2⟩)
     ·exact .inr ⟨h1,h2⟩
structure ViewOk (g:List (List Int)) (r:List Int) (m:List (Int × Int)) (p:List (List Int)):Prop where
 ord:OrdOk g r
 len:p.length=g.length
 att:∀ x,mget m x=if x∈r then some ((r.idxOf x:Nat):Int) else none
 preds:∀ (s:Nat) (x:Int),x∈p.getD s []↔x∈r/\(s:Int)∈succs g x
theorem viewOk_is {g:List (List Int)} (hv:ValidG g) (h0:0 < g.length) (hl:g.length<=1000000) (hr:∀ l∈g,l.length<=1000):∃ r m p,ViewIs g r m p/\ViewOk g r m p:=by
 obtain ⟨r,h1,h2⟩:=order_is hv h0 hl (fun l hl=>by have:=hr l hl;omega)
 have hdeg:∀ xs:List Int,degs g xs<=xs.length * 1000:=by
  intro xs
  induction xs with
  | nil=>simp [degs]
  | cons a xs ih =>
   have:(succs g a).length<=1000:=by
    unfold succs
    rw [List.getD_eq_getElem?_getD]
    cases e:g[a.toNat]? with
    | none=>simp
    | some l=>exact hr l (List.mem_of_getElem? e)
   simp only [degs,List.map_cons,List.sum_cons,List.length_cons] at ih ⊢
   omega
 have hrl:=nodup_len h2.nd h2.rng
 obtain ⟨m,p,b1,b2,b3,b4⟩:=viewLoop_ok g hv r 0 [] (List.replicate g.length []) h2.rng h2.nd (by simp) (fun s=>by
  have:((List.replicate g.length ([]:List Int)).getD s []).length=0:=by
   rw [List.getD_eq_getElem?_getD,List.getElem?_replicate];split <;> rfl
  have:=hdeg r
  omega)
 refine ⟨r,m,p,⟨h1,b1,b2⟩,h2,b2,fun x=>?_,fun s x=>?_⟩
 ·rw [b3];simp [mget]
 ·rw [b4]
  have:x ∉ (List.replicate g.length ([]:List Int)).getD s []:=by
   rw [List.getD_eq_getElem?_getD,List.getElem?_replicate];split <;> simp
  exact ⟨fun h=>h.resolve_left this,.inr⟩
section
variable {g : List (List Int)} {r : List Int} {m : List (Int × Int)} {p : List (List Int)}
theorem ViewOk.pos (h:ViewOk g r m p) {x:Int} (hx:x∈r):mI0 m x=r.idxOf x:=by simp [mI0,h.att,hx]
theorem ViewOk.pos_lt (h:ViewOk g r m p) {x:Int} (hx:x∈r):0<=mI0 m x/\mI0 m x < r.length:=by
 rw [h.pos hx]
 have:=List.idxOf_lt_length_of_mem hx
 omega
theorem ViewOk.at_pos (h:ViewOk g r m p) {x:Int} (hx:x∈r):r.getD (mI0 m x).toNat (-1)=x:=by
 have hl:=List.idxOf_lt_length_of_mem hx
 rw [h.pos hx,Int.toNat_natCast,List.getD_eq_getElem?_getD,List.getElem?_eq_getElem hl,List.getElem_idxOf]
 rfl
theorem ViewOk.pos_inj (h:ViewOk g r m p) {x y:Int} (hx:x∈r) (hy:y∈r) (e:mI0 m x=mI0 m y):x=y:=by
 rw [<-h.at_pos hx,<-h.at_pos hy,e]
theorem ViewOk.zero_mem (h:ViewOk g r m p):(0:Int)∈r:=by obtain ⟨t,e⟩:=h.ord.root;rw [e];simp
theorem ViewOk.pos_zero (h:ViewOk g r m p):mI0 m 0=0:=by
 obtain ⟨t,e⟩:=h.ord.root
 rw [h.pos h.zero_mem,e];simp
theorem ViewOk.pos_pos (h:ViewOk g r m p) {x:Int} (hx:x∈r) (h0:x≠0):0 < mI0 m x:=by
 have h1:=(h.pos_lt hx).1
 have h2:mI0 m x≠0:=fun e=>h0 (h.pos_inj hx h.zero_mem (by rw [e,h.pos_zero]))
 omega
end
def par (idom:List Int) (a:Int):Int:=idom.getD a.toNat 0
inductive Anc (idom:List Int) (x:Int):Int->Prop
 | refl:Anc idom x x
 | step {a:Int}:Anc idom x (par idom a)->a≠0->Anc idom x a
structure TreeOkT (g:List (List Int)) (r:List Int) (m:List (Int × Int)) (idom:List Int):Prop where
 len:idom.length=g.length
 out:∀ a,inT idom a->a∈r
 up:∀ a,inT idom a->a≠0->inT idom (par idom a)/\mI0 m (par idom a) < mI0 m a
 root:inT idom 0
 neg:∀ a:Int,0<=a->a < g.length->¬ inT idom a->par idom a=-1
section
variable {g : List (List Int)} {r : List Int} {m : List (Int × Int)} {p : List (List Int)} {idom : List Int}
theorem TreeOkT.treeB (h:TreeOkT g r m idom) (hV:ViewOk g r m p) (h0:par idom 0=0):treeB r m idom=true:=by
 unfold Ytfiiihpdekppiaa.treeB
 refine List.all_eq_true.2 fun a ha=>?_
 have ha':a < idom.length:=by simpa using ha
 unfold nodeB
 by_cases hneg:idom.getD a 0 < 0
 ·simp [show idom[a]?.getD 0 < 0 by rw [<-List.getD_eq_getElem?_getD];exact hneg]
 ·have hT:inT idom a:=⟨by omega,by omega,by rw [Int.toNat_natCast];omega⟩
  have hr:=h.out _ hT
  by_cases ha0:(a:Int)=0
  ·have e:a=0:=by omega
   subst e
   have e0:idom.getD 0 0=0:=h0
   have e1:=hV.at_pos hV.zero_mem
   have e2:=hV.pos_zero
   simp only [Int.natCast_zero,Bool.or_eq_true,Bool.and_eq_true,decide_eq_true_eq,e0]
   rw [e2] at e1 ⊢
   right
   refine ⟨⟨⟨⟨by omega,e1⟩,by omega,?_⟩,?_⟩,.inr rfl⟩
   ·have:=h.root.2.1;omega
   ·show 0<=idom.getD 0 0
    omega
  ·obtain ⟨h1,h2⟩:=h.up _ hT ha0
   have e1:=hV.at_pos hr
   have e2:=(hV.pos_lt hr).1
   have ep:par idom a=idom.getD a 0:=by simp [par]
   rw [ep] at h1 h2
   simp only [Bool.or_eq_true,Bool.and_eq_true,decide_eq_true_eq]
   exact .inr ⟨⟨⟨⟨e2,e1⟩,h1.1,h1.2.1⟩,h1.2.2⟩,.inl h2⟩
theorem Anc.trans {x y a:Int} (h1:Anc idom x y) (h2:Anc idom y a):Anc idom x a:=by
 induction h2 with
 | refl=>exact h1
 | step _ h ih=>exact .step ih h
theorem TreeOkT.anc_le (h:TreeOkT g r m idom) {x a:Int} (hx:Anc idom x a) (ha:inT idom a):mI0 m x<=mI0 m a/\inT idom x:=by
 induction hx with
 | refl=>exact ⟨Int.le_refl _,ha⟩
 | step _ h0 ih =>
  obtain ⟨h1,h2⟩:=h.up _ ha h0
  have:=ih h1
  exact ⟨by omega,this.2⟩
theorem TreeOkT.anc_lt (h:TreeOkT g r m idom) {x a:Int} (hx:Anc idom x a) (ha:inT idom a) (hne:x≠a):mI0 m x < mI0 m a/\a≠0/\Anc idom x (par idom a):=by
 cases hx with
 | refl=>exact absurd rfl hne
 | step h1 h0 =>
  obtain ⟨h2,h3⟩:=h.up _ ha h0
  have:=(h.anc_le h1 h2).1
  exact ⟨by omega,h0,h1⟩
theorem TreeOkT.anc_zero (h:TreeOkT g r m idom) {x:Int} (hx:Anc idom x 0):x=0:=by
 cases hx with
 | refl=>rfl
 | step _ h0=>exact absurd rfl h0
theorem climb_spec (h:TreeOkT g r m idom) (hV:ViewOk g r m p) {b:Int} (hb:0<=mI0 m b):∀ (k:Nat) (a a':Int),inT idom a->climb m idom k a b=some a'->inT idom a'/\Anc idom a' a/\mI0 m a'<=mI0 m b/\∀ x,Anc idom x a->mI0 m x<=mI0 m b->Anc idom x a'
 | 0,a,a',_,e=>by simp [climb] at e
 | k+1,a,a',ha,e=>by
  unfold climb at e
  by_cases h1:mI0 m a > mI0 m b
  ·rw [if_pos h1,if_pos ⟨ha.1,ha.2.1⟩] at e
   have h0:a≠0:=fun e=>by rw [e,hV.pos_zero] at h1;omega
   obtain ⟨h2,h3⟩:=h.up _ ha h0
   obtain ⟨c1,c2,c3,c4⟩:=climb_spec h hV hb k (par idom a) a' h2 e
   refine ⟨c1,c2.step h0,c3,fun x hx hle=>c4 x ?_ hle⟩
   exact (h.anc_lt hx ha (fun e=>by rw [e] at hle;omega)).2.2
  ·rw [if_neg h1] at e
   injection e with e
   subst e
   exact ⟨ha,.refl,by omega,fun x hx _=>hx⟩
theorem meet_spec (h:TreeOkT g r m idom) (hV:ViewOk g r m p):∀ (k:Nat) (a b d:Int),inT idom a->inT idom b->meetF m idom k a b=some d->inT idom d/\∀ x,Anc idom x d↔Anc idom x a/\Anc idom x b
 | 0,a,b,d,_,_,e=>by simp [meetF] at e
 | k+1,a,b,d,ha,hb,e=>by
  unfold meetF at e
  by_cases hab:a=b
  ·rw [if_neg (by simpa using hab)] at e
   injection e with e
   subst e
   subst hab
   exact ⟨ha,fun x=>⟨fun h=>⟨h,h⟩,fun h=>h.1⟩⟩
  ·rw [if_pos hab] at e
   obtain ⟨a',e1,e2⟩:=Option.bind_eq_some_iff.1 e
   obtain ⟨b',e3,e4⟩:=Option.bind_eq_some_iff.1 e2
   obtain ⟨c1,c2,c3,c4⟩:=climb_spec h hV (hV.pos_lt (h.out _ hb)).1 k a a' ha e1
   obtain ⟨d1,d2,d3,d4⟩:=climb_spec h hV (hV.pos_lt (h.out _ c1)).1 k b b' hb e3
   obtain ⟨f1,f2⟩:=meet_spec h hV k a' b' d c1 d1 e4
   refine ⟨f1,fun x=>?_⟩
   rw [f2]
   constructor
   ·exact fun ⟨h1,h2⟩=>⟨h1.trans c2,h2.trans d2⟩
   ·intro ⟨h1,h2⟩
    have h3:=c4 x h1 (h.anc_le h2 hb).1
    exact ⟨h3,d4 x h2 (h.anc_le h3 c1).1⟩
theorem fold_spec (h:TreeOkT g r m idom) (hV:ViewOk g r m p) (hB:Ytfiiihpdekppiaa.treeB r m idom=true):∀ (ps:List Int) (d:Int),(d=-1∨inT idom d)->(∀ q∈ps,0<=q/\q < idom.length) ->
  (ps.foldl (stepT r m idom) d=-1/\d=-1/\∀ q∈ps,¬ inT idom q)∨(inT idom (ps.foldl (stepT r m idom) d)/\∀ x,Anc idom x (ps.foldl (stepT r m idom) d)↔(d=-1∨Anc idom x d)/\∀ q∈ps,inT idom q->Anc idom x q)
 | [],d,hd,_=>by
  rcases hd with rfl | hd
  ·exact .inl ⟨rfl,rfl,by simp⟩
  ·refine .inr ⟨hd,fun x=>⟨fun h=>⟨.inr h,by simp⟩,?_⟩⟩
   rintro ⟨h1 | h1,_⟩
   ·have:=hd.1;simp only [List.foldl_nil] at *;omega
   ·exact h1
 | q :: ps,d,hd,hq=>by
  have hq0:=hq q (by simp)
  simp only [List.foldl_cons]
  have hps:∀ q∈ps,0<=q/\q < idom.length:=fun x hx=>hq x (by simp [hx])
  by_cases hqT:inT idom q
  ·have hneg:¬ idom.getD q.toNat 0 < 0:=by have:=hqT.2.2;omega
   rcases hd with rfl | hd
   ·have e:stepT r m idom (-1) q=q:=by unfold stepT;rw [if_neg hneg,if_pos (by omega)]
    rw [e]
    rcases fold_spec h hV hB ps q (.inr hqT) hps with ⟨_,e2,_⟩ | ⟨c1,c2⟩
    ·have:=hqT.1;omega
    ·refine .inr ⟨c1,fun x=>?_⟩
     rw [c2]
     constructor
     ·rintro ⟨h1 | h1,h2⟩
      ·have:=hqT.1;omega
      ·exact ⟨.inl rfl,fun y hy hyT=>by rcases List.mem_cons.1 hy with rfl | hy;exact h1;exact h2 y hy hyT⟩
     ·rintro ⟨_,h2⟩
      exact ⟨.inr (h2 q (by simp) hqT),fun y hy hyT=>h2 y (by simp [hy]) hyT⟩
   ·obtain ⟨g1,g2⟩:=stepT_good hB (d:=d) hq0 (.inr hd)
    have hd0:¬ d < 0:=by have:=hd.1;omega
    obtain ⟨c1,c2⟩:=meet_spec h hV _ _ _ _ hqT hd (g2 hneg hd0)
    rcases fold_spec h hV hB ps _ (.inr c1) hps with ⟨_,e2,_⟩ | ⟨f1,f2⟩
    ·have:=c1.1;omega
    ·refine .inr ⟨f1,fun x=>?_⟩
     rw [f2]
     constructor
     ·rintro ⟨h1 | h1,h2⟩
      ·have:=c1.1;omega
      ·have h3:=(c2 x).1 h1
       exact ⟨.inr h3.2,fun y hy hyT=>by rcases List.mem_cons.1 hy with rfl | hy;exact h3.1;exact h2 y hy hyT⟩
     ·rintro ⟨h1 | h1,h2⟩
      ·have:=hd.1;omega
      ·exact ⟨.inr ((c2 x).2 ⟨h2 q (by simp) hqT,h1⟩),fun y hy hyT=>h2 y (by simp [hy]) hyT⟩
  ·have hneg:idom.getD q.toNat 0 < 0:=by
    rcases Int.lt_or_le (idom.getD q.toNat 0) 0 with h1 | h1
    ·exact h1
    ·exact absurd ⟨hq0.1,hq0.2,h1⟩ hqT
   have e:stepT r m idom d q=d:=by unfold stepT;rw [if_pos hneg]
   rw [e]
   rcases fold_spec h hV hB ps d hd hps with ⟨e1,e2,e3⟩ | ⟨c1,c2⟩
   ·exact .inl ⟨e1,e2,fun y hy=>by rcases List.mem_cons.1 hy with rfl | hy;exact hqT;exact e3 y hy⟩
   ·refine .inr ⟨c1,fun x=>?_⟩
    rw [c2]
    constructor
    ·rintro ⟨h1,h2⟩
     exact ⟨h1,fun y hy hyT=>by rcases List.mem_cons.1 hy with rfl | hy;exact absurd hyT hqT;exact h2 y hy hyT⟩
    ·rintro ⟨h1,h2⟩
     exact ⟨h1,fun y hy hyT=>h2 y (by simp [hy]) hyT⟩
end
end Go.Proofs.Ytfiiihpdekppiaa
end
