/- A part of the proof that vellumlaw12.ShapeAcyclic is true for every input: walks of functions that the row reaches and plain laws that they need. Conditions: none. Joined by merge.py out of B9 C14 C15; a part that began as a print is named P or W there and is trimmed. -/
import Derived.Test.YtfiiihpdekppiaaA6
import Derived.Test.YtfiiihpdekppiaaA10
set_option linter.unusedVariables false
set_option linter.unusedSimpArgs false
section
namespace Go.Proofs.Ytfiiihpdekppiaa
open Go.RowKit Go.Proofs Go.Proofs.YtfiiihpdekppiaaW.PrintWords
open Go.ChangeMaps (setBlock heap_setBlock_same heap_setBlock_other)
def zipV (kids:List (Int × List Int)) (vs:List Value):List (Int × Value):=List.zipWith (fun p v=>(p.1,v)) kids vs
def Pc.km (bk:Nat) (vs:List Value) (kids:List (Int × List Int)):Pc where
 foot:=fun k=>k=bk∨∃ i,i < vs.length/\(vs.getD i nilS).ownBlock=some k
 says:=fun w=>w.heap[bk]?=some (mObj (zipV kids vs))/\Rows3 w 0 vs (kids.map Prod.snd)
 lt:=fun h k hk=>by
  rcases hk with rfl | ⟨i,hi,hk⟩
  ·exact blk_lt' h.1
  ·exact own_lt (h.2.row i hi) k hk
 loc:=fun h hb=>⟨by rw [hb _ (.inl rfl)];exact h.1,h.2.move (fun i k hi hk=>hb k (.inr ⟨i,hi,hk⟩))⟩
theorem kpos_at {β:Type}:∀ (kids:List (Int × β)) (n:Int),(mpos kids n=none/\mget kids n=none)∨∃ i x,mpos kids n=some i/\kids[i]?=some (n,x)/\mget kids n=some x
 | [],n=>.inl ⟨rfl,rfl⟩
 | p :: r,n=>by
  by_cases h:p.1=n
  ·exact .inr ⟨0,p.2,by simp [mpos,h],by simp [<-h],by simp [mget,h]⟩
  ·have h2:(p.1 == n)=false:=by simp [h]
   have hg:mget (p :: r) n=mget r n:=by simp [mget,h2]
   have hp:mpos (p :: r) n=(mpos r n).map (·+1):=by simp [mpos,h]
   rcases kpos_at r n with ⟨h3,h4⟩ | ⟨i,x,h3,h4,h5⟩
   ·exact .inl ⟨by rw [hp,h3];rfl,by rw [hg];exact h4⟩
   ·exact .inr ⟨i+1,x,by rw [hp,h3];rfl,by simpa using h4,by rw [hg];exact h5⟩
theorem zipV_get:∀ (kids:List (Int × List Int)) (vs:List Value) (n:Int),vs.length=kids.length->mget (zipV kids vs) n=(mpos kids n).bind fun i=>vs[i]?
 | [],vs,n,h=>by simp at h;subst h;rfl
 | p :: r,[],n,h=>by simp at h
 | p :: r,v :: vs,n,h=>by
  simp only [List.length_cons,Nat.add_right_cancel_iff] at h
  have ih:=zipV_get r vs n h
  by_cases hp:p.1=n
  ·simp [zipV,mget,mpos,hp]
  ·have h2:(p.1 == n)=false:=by simp [hp]
   have e1:mget (zipV (p :: r) (v :: vs)) n=mget (zipV r vs) n:=by simp [zipV,mget,h2]
   rw [e1,ih]
   simp only [mpos,hp,if_false]
   cases mpos r n <;> simp
theorem zipV_put_old:∀ (kids:List (Int × List Int)) (vs:List Value) (n:Int) (i:Nat) (v:Value) (x:List Int),vs.length=kids.length->mpos kids n=some i->mput (zipV kids vs) n v=zipV (mput kids n x) (vs.set i v)/\(mput kids n x).map Prod.snd=(kids.map Prod.snd).set i x
 | [],_,_,_,_,_,_,h=>by simp [mpos] at h
 | p :: r,[],_,_,_,_,h,_=>by simp at h
 | p :: r,u :: vs,n,i,v,x,h,hp=>by
  simp only [List.length_cons,Nat.add_right_cancel_iff] at h
  by_cases hn:p.1=n
  ·simp only [mpos,hn,if_true,Option.some.injEq] at hp
   subst hp
   simp [zipV,mput,hn]
  ·simp only [mpos,hn,if_false,Option.map_eq_some_iff] at hp
   obtain ⟨j,hj,rfl⟩:=hp
   obtain ⟨e1,e2⟩:=zipV_put_old r vs n j v x h hj
   have e1':mput (List.zipWith (fun (p:Int × List Int) v=>(p.1,v)) r vs) n v=List.zipWith (fun (p:Int × List Int) v=>(p.1,v)) (mput r n x) (vs.set j v):=e1
   simp [zipV,mput,hn,e1',e2]
theorem zipV_put_new:∀ (kids:List (Int × List Int)) (vs:List Value) (n:Int) (v:Value) (x:List Int),vs.length=kids.length->mpos kids n=none->mput (zipV kids vs) n v=zipV (mput kids n x) (vs++[v])/\(mput kids n x).map Prod.snd=kids.map Prod.snd++[x]
 | [],vs,n,v,x,h,_=>by simp at h;subst h;simp [zipV,mput]
 | p :: r,[],_,_,_,h,_=>by simp at h
 | p :: r,u :: vs,n,v,x,h,hp=>by
  simp only [List.length_cons,Nat.add_right_cancel_iff] at h
  by_cases hn:p.1=n
  ·simp [mpos,hn] at hp
  ·simp only [mpos,hn,if_false,Option.map_eq_none_iff] at hp
   obtain ⟨e1,e2⟩:=zipV_put_new r vs n v x h hp
   have e1':mput (List.zipWith (fun (p:Int × List Int) v=>(p.1,v)) r vs) n v=List.zipWith (fun (p:Int × List Int) v=>(p.1,v)) (mput r n x) (vs++[v]):=e1
   simp [zipV,mput,hn,e1',e2]
theorem zero23 (w:World):(zeroValue 23).run Try.prog w=.ok nilS w:=by kernel_rfl
def kmV (kids:List (Int × List Int)) (vs:List Value) (n:Int):Value:=(mget (zipV kids vs) n).getD nilS
section
variable {w0 w w' : World} {F H : List Pc}
theorem Mem.km {k bk:Nat} {vs:List Value} {kids:List (Int × List Int)} (h:Mem w0 w F H) (hk:H[k]?=some (.km bk vs kids)):w.heap[bk]?=some (mObj (zipV kids vs))/\Rows3 w 0 vs (kids.map Prod.snd):=h.says hk
theorem Mem.kmLook {k bk:Nat} {vs:List Value} {kids:List (Int × List Int)} (h:Mem w0 w F H) (hk:H[k]?=some (.km bk vs kids)) (n:Int):(Instr.lookup 113 (.map (some bk)) (.int .i64 n) false).run Try.prog w=.ok (kmV kids vs n) w:=by
 rw [run_look Try.underlying113 Try.underlying3 (h.km hk).1 zero23]
 rfl
theorem kmRow {W:World} {vs:List Value} {kids:List (Int × List Int)} (h:Rows3 W 0 vs (kids.map Prod.snd)) (n:Int):W.ownsRow 0 3 1 (kmV kids vs n) (kidsOf kids n).length (nums .i64 (kidsOf kids n)):=by
 have hlen:vs.length=kids.length:=by simpa using h.len
 unfold kmV kidsOf
 rw [zipV_get kids vs n hlen]
 rcases kpos_at kids n with ⟨h1,h2⟩ | ⟨i,x,h1,h2,h3⟩
 ·rw [h1,h2]
  exact own_nil _ _ _ _
 ·have hi:i < vs.length:=by rw [hlen];exact (List.getElem?_eq_some_iff.1 h2).1
  have:=h.row i hi
  rw [h1,h3]
  simp only [Option.bind_some,List.getElem?_eq_getElem hi,Option.getD_some]
  have e1:vs.getD i nilS=vs[i]:=by simp [List.getD_eq_getElem?_getD,hi]
  have e2:(kids.map Prod.snd).getD i []=x:=by simp [List.getD_eq_getElem?_getD,h2]
  rw [e1,e2] at this
  exact this
theorem kmC {W:World} {vs:List Value} {kids:List (Int × List Int)} {A:Option Addr} {m c:Nat} {n:Int} (h:Rows3 W 0 vs (kids.map Prod.snd)) (hv:kmV kids vs n=.slice A m c):kI.C W A (kidsOf kids n).length (kidsOf kids n)/\(kidsOf kids n).length<=c/\m=(kidsOf kids n).length:=by
 obtain ⟨A',c',e,hc,hC⟩:=own_C (kmRow h n)
 rw [hv] at e
 injection e with e1 e2 e3
 subst e1 e2 e3
 exact ⟨hC,hc,rfl⟩
theorem kmV_mem (kids:List (Int × List Int)) (vs:List Value) (n:Int) (hlen:vs.length=kids.length):kmV kids vs n=nilS∨kmV kids vs n∈vs:=by
 unfold kmV
 rw [zipV_get kids vs n hlen]
 rcases kpos_at kids n with ⟨h1,_⟩ | ⟨i,x,h1,h2,_⟩
 ·rw [h1];exact .inl rfl
 ·have hi:i < vs.length:=by rw [hlen];exact (List.getElem?_eq_some_iff.1 h2).1
  rw [h1]
  simp only [Option.bind_some,List.getElem?_eq_getElem hi,Option.getD_some]
  exact .inr (List.getElem_mem hi)
theorem Mem.newkm (h:Mem w0 w F H):∃ b w2,w.heap.size=b/\w.alloc (.map #[] 0)=w2/\Mem w0 w2 F (H++[.km b [] []]) :=
 ⟨_,_,rfl,rfl,h.new (.km w.heap.size [] []) ((Below.refl _ _).alloc (Nat.le_refl _) _) ⟨heap_alloc_new _ _,Rows3.nil _ _⟩ (fun b hb=>by
  rcases hb with rfl | ⟨i,hi,_⟩
  ·exact Nat.le_refl _
  ·simp at hi)⟩
theorem Mem.kmAdd {k bk:Nat} {vs:List Value} {kids:List (Int × List Int)} (h:Mem w0 w F H) (hk:H[k]?=some (.km bk vs kids)) (n x:Int) {b':Nat} {v':Value} (hg:w.grownBy w' (kmV kids vs n).ownBlock) (ho:w'.ownsRow b' 3 1 v' (kidsOf kids n++[x]).length (nums .i64 (kidsOf kids n++[x])))
  (hat:v'.ownBlock=(kmV kids vs n).ownBlock∨∃ b,v'.ownBlock=some b/\w.heap.size<=b) :
  w'.heap[bk]?=some (mObj (zipV kids vs))/\∃ w2 vs',(Instr.mapUpdate 113 (.map (some bk)) (.int .i64 n) v').run Try.prog w'=.ok () w2/\w2=setBlock w' bk (mObj (mput (zipV kids vs) n v'))/\(∀ u∈vs',u∈vs∨u=v')/\Mem w0 w2 F (H.set k (.km bk vs' (mput kids n (kidsOf kids n++[x])))):=by
 obtain ⟨h1,h2⟩:=h.km hk
 have hlen:vs.length=kids.length:=by simpa using h2.len
 have hvo:=kmRow h2 n
 have hbk:w'.heap[bk]?=some (mObj (zipV kids vs)):=grown_map hg hvo h1
 refine ⟨hbk,?_⟩
 have hlt':=blk_lt' hbk
 have hput:∀ o:Obj,(setBlock w' bk o).heap[bk]?=some o:=fun o=>by simp [setBlock,hlt']
 have hoth:∀ (o:Obj) (q:Nat),q≠bk->(setBlock w' bk o).heap[q]?=w'.heap[q]?:=fun o q hq=>by simp [setBlock,Ne.symm hq]
 have hcell:∀ {w'':World} {q:Nat} {cs:Array Value},w''.heap[q]?=some (.cells cs 3 (0,0))->w''.heap[bk]?=some (mObj (zipV kids vs))->q≠bk:=fun h3 h4 e=>by subst e;rw [h3] at h4;cases h4
 have chg:∀ o:Obj,Chg (Pc.km bk vs kids).foot w (setBlock w' bk o):=fun o =>
  ⟨hg.os,hg.tape,hg.output,by simpa [setBlock] using hg.size,fun q hq hn=>by
   rw [hoth o q (fun e=>hn (.inl e))]
   refine hg.block q hq (fun e=>hn (.inr ?_))
   rcases kpos_at kids n with ⟨h3,h4⟩ | ⟨i,y,h3,h4,h5⟩
   ·exfalso
    unfold kmV at e
    rw [zipV_get kids vs n hlen,h3] at e
    simp [Value.ownBlock] at e
   ·have hi:i < vs.length:=by rw [hlen];exact (List.getElem?_eq_some_iff.1 h4).1
    refine ⟨i,hi,?_⟩
    unfold kmV at e
    rw [zipV_get kids vs n hlen,h3] at e
    simp only [Option.bind_some,List.getElem?_eq_getElem hi,Option.getD_some] at e
    simpa [List.getD_eq_getElem?_getD,hi] using e.symm⟩
 refine ⟨_,(match mpos kids n with | some i=>vs.set i v' | none=>vs++[v']),run_put Try.underlying113 Try.underlying3 hbk n v',rfl,?_,?_⟩
 ·intro u hu
  cases hp:mpos kids n with
  | none=>rw [hp] at hu;simpa using hu
  | some i=>rw [hp] at hu;exact (List.mem_or_eq_of_mem_set hu)
 rcases kpos_at kids n with ⟨h3,h4⟩ | ⟨i,y,h3,h4,h5⟩
 ·rw [h3]
  obtain ⟨e1,e2⟩:=zipV_put_new kids vs n v' (kidsOf kids n++[x]) hlen h3
  have hv0:kmV kids vs n=nilS:=by unfold kmV;rw [zipV_get kids vs n hlen,h3];rfl
  have hnew:∀ q,v'.ownBlock=some q->w.heap.size<=q:=fun q hq=>by
   rcases hat with e | ⟨b,e,hb⟩
   ·rw [e,hv0] at hq;simp [Value.ownBlock] at hq
   ·rw [e] at hq;injection hq with hq;omega
  refine h.step hk _ (chg _) ⟨by rw [hput,e1],?_⟩ ?_
  ·rw [e2]
   have r1:Rows3 w' 0 vs (kids.map Prod.snd):=h2.move (fun i q hi hq=>hg.block q (own_lt (h2.row i hi) q hq) (by rw [hv0];simp [Value.ownBlock]))
   have r2:Rows3 w' 0 (vs++[v']) (kids.map Prod.snd++[kidsOf kids n++[x]]):=r1.push (own_weaken ho (Nat.zero_le _)) (fun j hj=>by
    cases hv:(vs.getD j nilS).ownBlock with
    | none=>exact .inl rfl
    | some q=>exact .inr (fun e=>by have:=own_lt (h2.row j hj) q hv;have:=hnew q e.symm;omega))
   exact r2.typed (fun q cs hq=>hoth _ q (hcell hq hbk))
  ·rintro q (rfl | ⟨j,hj,hq⟩)
   ·exact .inl (.inl rfl)
   ·simp only [List.length_append,List.length_singleton] at hj
    rcases Nat.lt_or_ge j vs.length with h6 | h6
    ·simp only [getD_snoc_old h6] at hq
     exact .inl (.inr ⟨j,h6,hq⟩)
    ·have:j=vs.length:=by omega
     subst this
     simp only [getD_snoc_new] at hq
     exact .inr (hnew q hq)
 ·rw [h3]
  obtain ⟨e1,e2⟩:=zipV_put_old kids vs n i v' (kidsOf kids n++[x]) hlen h3
  have hi:i < vs.length:=by rw [hlen];exact (List.getElem?_eq_some_iff.1 h4).1
  have hv0:kmV kids vs n=vs.getD i nilS:=by
   unfold kmV
   rw [zipV_get kids vs n hlen,h3]
   simp [List.getD_eq_getElem?_getD,hi]
  rw [hv0] at hg hat
  refine h.step hk _ (chg _) ⟨by rw [hput,e1],?_⟩ ?_
  ·rw [e2]
   have r2:=h2.turned hi (own_weaken ho (Nat.zero_le _)) hg hat
   exact r2.typed (fun q cs hq=>hoth _ q (hcell hq hbk))
  ·rintro q (rfl | ⟨j,hj,hq⟩)
   ·exact .inl (.inl rfl)
   ·rw [List.length_set] at hj
    by_cases hji:i=j
    ·subst hji
     rw [getD_set_self hi] at hq
     rcases hat with e | ⟨b,e,hb⟩
     ·rw [e] at hq;exact .inl (.inr ⟨i,hi,hq⟩)
     ·rw [e] at hq;injection hq with hq;right;omega
    ·rw [getD_set_other hji] at hq
     exact .inl (.inr ⟨j,hj,hq⟩)
end
theorem want83 (m:Int) (w:World):Calls Try.prog 83 #[.int .i64 m] w fun e w'=>e=.returned (.bool true)/\Drawn0 w w':=by
 go_enter Try.func83,Try.ntmps83
 go_wp2
 go_ret
 exact ⟨rfl,Drawn0.refl _⟩
set_option maxHeartbeats 1000000 in
theorem want84 (m:Int) (w:World) (b7:Nat) (A:Option Addr) (c:Nat) (es:List Int) (h7:w.cell? ⟨b7,0,none⟩=some (.slice A es.length c)) (hC:kI.C w A es.length es) (hc:es.length<=c) (hl:es.length<=1000000):Calls Try.prog 84 #[.int .i64 m,.pointer (some ⟨b7,0,none⟩)] w fun e w'=>e=.returned (.bool (es.contains m))/\Drawn0 w w':=by
 obtain ⟨r,hr⟩:∃ r,r=es.contains m:=⟨_,rfl⟩
 have HR:=ak_ hr
 have HC:=ak_ hC
 clear hr hC
 go_enter Try.func84,Try.ntmps84
 go_wp2_with (go_at_call 80;refine (contains_any w A c es m HC.out hc (by omega)).mono ?_;rintro e w4 ⟨rfl,hd⟩;rw [<-HR.out];have HD:=ak_ hd;clear hd)
 go_ret
 exact ⟨by rw [<-HR.out];rfl,HD.out⟩
theorem red_step {f:Int->Int} {l:List Int} {k:Nat} (hk:k < l.length):((l.take k).map f++l.drop k).set k (f (l.getD k 0))=(l.take (k+1)).map f++l.drop (k+1):=by
 rw [List.set_append_right _ _ (by simp;omega)]
 have e:k - ((l.take k).map f).length=0:=by simp;omega
 rw [e,List.drop_eq_getElem_cons hk,List.take_succ_eq_append_getElem hk,List.set_cons_zero,List.map_append]
 simp [List.getD_eq_getElem?_getD,hk]
theorem red_same {f:Int->Int} {l:List Int} {k:Nat} (hk:k < l.length) (h:f (l.getD k 0)=l.getD k 0):(l.take k).map f++l.drop k=(l.take (k+1)).map f++l.drop (k+1):=by
 rw [<-red_step hk,h]
 apply List.ext_getElem?
 intro i
 rw [List.getElem?_set]
 by_cases hi:k=i
 ·subst hi
  have e:((l.take k).map f).length=k:=by simp;omega
  rw [List.getElem?_append_right (by omega),e,Nat.sub_self]
  simp [List.getD_eq_getElem?_getD,hk]
  omega
 ·simp [hi]
theorem red_get {f:Int->Int} {l:List Int} {k:Nat} (hk:k < l.length):((l.take k).map f++l.drop k).getD k 0=l.getD k 0:=by
 simp [List.getD_eq_getElem?_getD,List.getElem?_append_right,Nat.min_eq_left (Nat.le_of_lt hk)]
theorem set_set' {α:Type} (l:List α) (i:Nat) (a b:α):(l.set i a).set i b=l.set i b:=by simp
theorem set_getD_self {l:List (List Int)} (i:Nat):l.set i (l.getD i [])=l:=by
 apply List.ext_getElem?
 intro j
 rw [List.getElem?_set]
 by_cases h:i=j
 ·subst h
  by_cases hi:i < l.length
  ·simp [hi,List.getD_eq_getElem?_getD]
  ·simp [List.getElem?_eq_none (Nat.le_of_not_lt hi)];omega
 ·simp [h]
theorem redM_none {tom:List (Int × Int)} {want:Int->Bool} {m:Int} (h:mget tom m=none):redM tom want m=m:=by simp [redM,h]
theorem redM_some {tom:List (Int × Int)} {want:Int->Bool} {m c:Int} (h:mget tom m=some c):redM tom want m=if want m then c else m:=by simp [redM,h]
theorem Mem.matAt {w0 w:World} {F H:List Pc} {k i j ab ca rb cr:Nat} {n:Nat} {vs:List Value} {xss:List (List Int)} {g:List Int} (h:Mem w0 w F H) (hk:H[k]?=some (.mat (.slice (some ⟨ab,0,none⟩) n ca) vs xss)) (hi:i < xss.length) (hg:xss.getD i []=g) (hj:j < g.length)
  (hv:vs.getD i nilS=.slice (some ⟨rb,0,none⟩) g.length cr):w.cell? ⟨ab,i,none⟩=some (.slice (some ⟨rb,0,none⟩) g.length cr)/\w.cell? ⟨rb,j,none⟩=some (.int .i64 (g.getD j 0))/\w.frozen? ⟨rb,j,none⟩=false:=by
 obtain ⟨ab',ca',A',cr',e1,c3,e2,e3,hC⟩:=h.matRow hk hi
 have hlen:=h.matLen hk
 have h8:=(h.mat hk).2.row i (by omega)
 rw [hg] at c3 e2 e3 hC h8
 rw [hv] at e2 h8
 injection e1 with e1 _ _
 injection e1 with e1
 injection e1 with e1
 injection e2 with e2 _ e4
 subst e1 e2 e4
 obtain ⟨ad,e5,c4⟩:=C_num hC j hj
 injection e5 with e5
 subst e5
 refine ⟨c3,?_,h8.frozenAt j⟩
 have:(⟨rb,0,none⟩:Addr).add j=⟨rb,j,none⟩:=by unfold Addr.add;split <;> simp_all
 rw [<-this]
 exact c4
set_option maxRecDepth 100000 in
set_option maxHeartbeats 4000000 in
theorem redirect_83 (w0:World) (F:List Pc) (bs b4 b12 bt:Nat) (sv nv u2 u3:Value) (vs:List Value) (succ:List (List Int)) (tom:List (Int × Int)) (n:Nat) (w:World) (hn:n < succ.length) (hl:(succ.getD n []).length<=1000000000)
  (M:Mem w0 w F [.blk bs (.cells #[sv,nv,u2,u3] 65 (0,0)),.mat sv vs succ,.blk b4 (.cells #[.pointer (some ⟨bs,0,none⟩)] 63 (0,0)),.blk b12 (.cells #[.map (some bt)] 97 (0,0)),.blk bt (mI tom)]) :
  Calls Try.prog 82 #[.int .i64 n,.func (.func 83) #[] #[],.pointer (some ⟨b4,0,none⟩),.pointer (some ⟨b12,0,none⟩)] w fun e w'=>e=.returned (.tuple #[]) /\
   Mem w0 w' F [.blk bs (.cells #[sv,nv,u2,u3] 65 (0,0)),.mat sv vs (succ.set n ((succ.getD n []).map (redM tom (fun _=>true)))),.blk b4 (.cells #[.pointer (some ⟨bs,0,none⟩)] 63 (0,0)),.blk b12 (.cells #[.map (some bt)] 97 (0,0)),.blk bt (mI tom)]:=by
 obtain ⟨want,hwant⟩:∃ want:Int->Bool,want=(fun _=>true):=⟨_,rfl⟩
 obtain ⟨f,hf⟩:∃ f,f=redM tom want:=⟨_,rfl⟩
 obtain ⟨l,hll⟩:∃ l,l=succ.getD n []:=⟨_,rfl⟩
 obtain ⟨ab,ca,A,cr,hsv,c2,hvs,hcr,hC⟩:=M.matRow (k:=1) rfl hn
 have hrow:=(M.mat (k:=1) rfl).2.row n (by rw [M.matLen (k:=1) rfl];exact hn)
 subst hsv
 rw [<-hll] at c2 hvs hcr hl
 have k1:=M.cell (k:=2) (j:=0) rfl rfl
 have k2:=M.cell (k:=0) (j:=0) rfl rfl
 have MM:=ak_ (show Mem w0 w F [.blk bs (.cells #[.slice (some ⟨ab,0,none⟩) succ.length ca,nv,u2,u3] 65 (0,0)),.mat (.slice (some ⟨ab,0,none⟩) succ.length ca) vs (succ.set n ((l.take 0).map f++l.drop 0)),.blk b4 (.cells #[.pointer (some ⟨bs,0,none⟩)] 63 (0,0)),.blk b12 (.cells #[.map (some bt)] 97 (0,0)),.blk bt (mI tom)] by rw [List.take_zero,List.map_nil,List.drop_zero,List.nil_append,hll,set_getD_self];exact M)
 have HVS:=ak_ hvs
 have HF:=ak_ hf
 have HW:=ak_ hwant
 have HLL:=ak_ hll
 have hn':(n:Int) < succ.length:=by omega
 have hAr:0 < l.length->∃ rb,A=some ⟨rb,0,none⟩:=by
  intro h0
  rw [<-hll] at hrow
  obtain ⟨g,c,e,_⟩:=hrow.form (by omega)
  rw [hvs] at e
  injection e with e1
  exact ⟨g,e1⟩
 have HAR:=ak_ hAr
 clear M hC hvs hf hwant hll hAr hrow
 go_enter Try.func82,Try.ntmps82
 go_wp2
 clear k1 k2 c2
 go_loopw [18] (fun t wr=>∃ k:Nat,t=.int .i64 k/\k<=l.length/\Aside0 (Mem w0 wr F [.blk bs (.cells #[.slice (some ⟨ab,0,none⟩) succ.length ca,nv,u2,u3] 65 (0,0)),.mat (.slice (some ⟨ab,0,none⟩) succ.length ca) vs (succ.set n ((l.take k).map f++l.drop k)),.blk b4 (.cells #[.pointer (some ⟨bs,0,none⟩)] 63 (0,0)),.blk b12 (.cells #[.map (some bt)] 97 (0,0)),.blk bt (mI tom)])) (fun t _=>l.length - (intOf t).toNat)
 case atStart=>exact ⟨0,rfl,Nat.zero_le _,MM⟩
 case round =>
  obtain ⟨k,rfl,hk,hM⟩:=hrel
  by_cases hlt:k < l.length
  ·obtain ⟨rb,rfl⟩:=HAR.out (by omega)
   obtain ⟨m,hm⟩:∃ m,m=l.getD k 0:=⟨_,rfl⟩
   have hns:n < (succ.set n ((l.take k).map f++l.drop k)).length:=by simpa using hn
   have hgl:((succ.set n ((l.take k).map f++l.drop k)).getD n [])=(l.take k).map f++l.drop k:=getD_set_self hn _ _
   have hlen2:((l.take k).map f++l.drop k).length=l.length:=by simp;omega
   have hvs2:vs.getD n nilS=.slice (some ⟨rb,0,none⟩) ((l.take k).map f++l.drop k).length cr:=by rw [hlen2];exact HVS.out
   have hat:=fun (W:World) (MW:Mem w0 W F [.blk bs (.cells #[.slice (some ⟨ab,0,none⟩) succ.length ca,nv,u2,u3] 65 (0,0)),.mat (.slice (some ⟨ab,0,none⟩) succ.length ca) vs (succ.set n ((l.take k).map f++l.drop k)),.blk b4 (.cells #[.pointer (some ⟨bs,0,none⟩)] 63 (0,0)),.blk b12 (.cells #[.map (some bt)] 97 (0,0)),.blk bt (mI tom)])=>MW.matAt (k:=1) (j:=k) rfl hns hgl (by omega) hvs2
   rw [hlen2,red_get hlt,<-hm] at hat
   have hset:=fun (W:World) (MW:Mem w0 W F [.blk bs (.cells #[.slice (some ⟨ab,0,none⟩) succ.length ca,nv,u2,u3] 65 (0,0)),.mat (.slice (some ⟨ab,0,none⟩) succ.length ca) vs (succ.set n ((l.take k).map f++l.drop k)),.blk b4 (.cells #[.pointer (some ⟨bs,0,none⟩)] 63 (0,0)),.blk b12 (.cells #[.map (some bt)] 97 (0,0)),.blk bt (mI tom)]) (x:Int)=>MW.matSet (k:=1) (i:=n) (j:=k) rfl hns (by rw [hgl];exact hvs2) x
   rw [hgl] at hset
   simp only [set_set',List.set_cons_succ,List.set_cons_zero] at hset
   have HSET:=ak_ hset
   have HAT:=ak_ hat
   obtain ⟨c3,c4,_⟩:=hat wr hM.out
   clear hat hset
   have k1:=hM.out.cell (k:=2) (j:=0) rfl rfl
   have k2:=hM.out.cell (k:=0) (j:=0) rfl rfl
   have k5:=hM.out.cell (k:=3) (j:=0) rfl rfl
   have L1:=look_I2 (hM.out.blk (k:=4) rfl) m
   have hlt':(k:Int) < l.length:=by omega
   cases q1:mget tom m with
   | none =>
    rw [q1] at L1
    have E:=ak_ (red_same (f:=f) hlt (by rw [<-hm,HF.out,redM_none q1]))
    clear q1 hm hns hgl hlen2
    go_wp2
    go_roundw
    case rel=>exact ⟨k+1,by go_num,by omega,⟨by rw [<-E.out];exact hM.out⟩⟩
    case measure=>simp [intOf];omega
   | some cc =>
    rw [q1] at L1
    have hmi:mI0 tom m=cc:=by simp [mI0,q1]
    rw [hmi] at L1
    have E:=ak_ (show (l.take k).map f++l.drop k=(l.take k).map f++l.drop k/\((l.take k).map f++l.drop k).set k cc=(l.take (k+1)).map f++l.drop (k+1) by
     refine ⟨rfl,?_⟩
     rw [<-red_step hlt,<-hm,HF.out,redM_some q1,if_pos (by rw [HW.out])])
    clear q1 hm hns hgl hlen2 hvs2 hmi
    go_wp2_with (go_at_call 83;refine (want83 m _).mono ?_;rintro e w5 ⟨rfl,hd⟩;have M5:=hM.out.drawn hd;have j1:=M5.cell (k:=2) (j:=0) rfl rfl;have j2:=M5.cell (k:=0) (j:=0) rfl rfl;obtain ⟨j3,j4,j5⟩:=HAT.out w5 M5;obtain ⟨w9,s9,M9⟩:=HSET.out w5 M5 cc;have M9:=ak_ M9;have M5:=ak_ M5;clear hd)
    go_roundw
    case rel=>exact ⟨k+1,by go_num,by omega,⟨by have:=M9.out;rw [E.out.2] at this;exact this⟩⟩
    case measure=>simp [intOf];omega
  ·obtain rfl:k=l.length:=by omega
   go_wp2
   go_end0
   exact ⟨rfl,by have:=hM.out;rw [List.take_length,List.drop_length,List.append_nil,HF.out,HW.out,HLL.out] at this;exact this⟩
set_option maxRecDepth 100000 in
set_option maxHeartbeats 4000000 in
theorem redirect_84 (w0:World) (F:List Pc) (bs b4 b12 bt:Nat) (sv nv u2 u3:Value) (vs:List Value) (succ:List (List Int)) (tom:List (Int × Int)) (b7 eb ce:Nat) (ev:Value) (es es0:List Int) (hes1:es.length<=ce) (hes2:es.length<=1000000) (he:∀ W,W.ownsRow 0 3 1 ev es0.length (nums .i64 es0)->kI.C W (some ⟨eb,1,none⟩) es.length es) (n:Nat) (w:World) (hn:n < succ.length) (hl:(succ.getD n []).length<=1000000000)
  (M:Mem w0 w F [.blk bs (.cells #[sv,nv,u2,u3] 65 (0,0)),.mat sv vs succ,.blk b4 (.cells #[.pointer (some ⟨bs,0,none⟩)] 63 (0,0)),.blk b12 (.cells #[.map (some bt)] 97 (0,0)),.blk bt (mI tom),.blk b7 (.cells #[.slice (some ⟨eb,1,none⟩) es.length ce] 23 (0,0)),.row ev 3 1 es0.length (nums .i64 es0)]) :
  Calls Try.prog 82 #[.int .i64 n,.func (.func 84) #[] #[.pointer (some ⟨b7,0,none⟩)],.pointer (some ⟨b4,0,none⟩),.pointer (some ⟨b12,0,none⟩)] w fun e w'=>e=.returned (.tuple #[]) /\
   Mem w0 w' F [.blk bs (.cells #[sv,nv,u2,u3] 65 (0,0)),.mat sv vs (succ.set n ((succ.getD n []).map (redM tom (fun m=>es.contains m)))),.blk b4 (.cells #[.pointer (some ⟨bs,0,none⟩)] 63 (0,0)),.blk b12 (.cells #[.map (some bt)] 97 (0,0)),.blk bt (mI tom),.blk b7 (.cells #[.slice (some ⟨eb,1,none⟩) es.length ce] 23 (0,0)),.row ev 3 1 es0.length (nums .i64 es0)]:=by
 obtain ⟨want,hwant⟩:∃ want:Int->Bool,want=(fun m=>es.contains m):=⟨_,rfl⟩
 obtain ⟨f,hf⟩:∃ f,f=redM tom want:=⟨_,rfl⟩
 obtain ⟨l,hll⟩:∃ l,l=succ.getD n []:=⟨_,rfl⟩
 obtain ⟨ab,ca,A,cr,hsv,c2,hvs,hcr,hC⟩:=M.matRow (k:=1) rfl hn
 have hrow:=(M.mat (k:=1) rfl).2.row n (by rw [M.matLen (k:=1) rfl];exact hn)
 subst hsv
 rw [<-hll] at c2 hvs hcr hl
 have k1:=M.cell (k:=2) (j:=0) rfl rfl
 have k2:=M.cell (k:=0) (j:=0) rfl rfl
 have MM:=ak_ (show Mem w0 w F [.blk bs (.cells #[.slice (some ⟨ab,0,none⟩) succ.length ca,nv,u2,u3] 65 (0,0)),.mat (.slice (some ⟨ab,0,none⟩) succ.length ca) vs (succ.set n ((l.take 0).map f++l.drop 0)),.blk b4 (.cells #[.pointer (some ⟨bs,0,none⟩)] 63 (0,0)),.blk b12 (.cells #[.map (some bt)] 97 (0,0)),.blk bt (mI tom),.blk b7 (.cells #[.slice (some ⟨eb,1,none⟩) es.length ce] 23 (0,0)),.row ev 3 1 es0.length (nums .i64 es0)] by rw [List.take_zero,List.map_nil,List.drop_zero,List.nil_append,hll,set_getD_self];exact M)
 have HVS:=ak_ hvs
 have HF:=ak_ hf
 have HW:=ak_ hwant
 have HLL:=ak_ hll
 have hn':(n:Int) < succ.length:=by omega
 have hAr:0 < l.length->∃ rb,A=some ⟨rb,0,none⟩:=by
  intro h0
  rw [<-hll] at hrow
  obtain ⟨g,c,e,_⟩:=hrow.form (by omega)
  rw [hvs] at e
  injection e with e1
  exact ⟨g,e1⟩
 have HAR:=ak_ hAr
 have HE:=ak_ (fun (W:World) {X:List (List Int)} (MW:Mem w0 W F [.blk bs (.cells #[.slice (some ⟨ab,0,none⟩) succ.length ca,nv,u2,u3] 65 (0,0)),.mat (.slice (some ⟨ab,0,none⟩) succ.length ca) vs X,.blk b4 (.cells #[.pointer (some ⟨bs,0,none⟩)] 63 (0,0)),.blk b12 (.cells #[.map (some bt)] 97 (0,0)),.blk bt (mI tom),.blk b7 (.cells #[.slice (some ⟨eb,1,none⟩) es.length ce] 23 (0,0)),.row ev 3 1 es0.length (nums .i64 es0)])=>he W (MW.says (k:=6) rfl))
 clear he M hC hvs hf hwant hll hAr hrow
 go_enter Try.func82,Try.ntmps82
 go_wp2
 clear k1 k2 c2
 go_loopw [18] (fun t wr=>∃ k:Nat,t=.int .i64 k/\k<=l.length/\Aside0 (Mem w0 wr F [.blk bs (.cells #[.slice (some ⟨ab,0,none⟩) succ.length ca,nv,u2,u3] 65 (0,0)),.mat (.slice (some ⟨ab,0,none⟩) succ.length ca) vs (succ.set n ((l.take k).map f++l.drop k)),.blk b4 (.cells #[.pointer (some ⟨bs,0,none⟩)] 63 (0,0)),.blk b12 (.cells #[.map (some bt)] 97 (0,0)),.blk bt (mI tom),.blk b7 (.cells #[.slice (some ⟨eb,1,none⟩) es.length ce] 23 (0,0)),.row ev 3 1 es0.length (nums .i64 es0)])) (fun t _=>l.length - (intOf t).toNat)
 case atStart=>exact ⟨0,rfl,Nat.zero_le _,MM⟩
 case round =>
  obtain ⟨k,rfl,hk,hM⟩:=hrel
  by_cases hlt:k < l.length
  ·obtain ⟨rb,rfl⟩:=HAR.out (by omega)
   obtain ⟨m,hm⟩:∃ m,m=l.getD k 0:=⟨_,rfl⟩
   have hns:n < (succ.set n ((l.take k).map f++l.drop k)).length:=by simpa using hn
   have hgl:((succ.set n ((l.take k).map f++l.drop k)).getD n [])=(l.take k).map f++l.drop k:=getD_set_self hn _ _
   have hlen2:((l.take k).map f++l.drop k).length=l.length:=by simp;omega
   have hvs2:vs.getD n nilS=.slice (some ⟨rb,0,none⟩) ((l.take k).map f++l.drop k).length cr:=by rw [hlen2];exact HVS.out
   have hat:=fun (W:World) (MW:Mem w0 W F [.blk bs (.cells #[.slice (some ⟨ab,0,none⟩) succ.length ca,nv,u2,u3] 65 (0,0)),.mat (.slice (some ⟨ab,0,none⟩) succ.length ca) vs (succ.set n ((l.take k).map f++l.drop k)),.blk b4 (.cells #[.pointer (some ⟨bs,0,none⟩)] 63 (0,0)),.blk b12 (.cells #[.map (some bt)] 97 (0,0)),.blk bt (mI tom),.blk b7 (.cells #[.slice (some ⟨eb,1,none⟩) es.length ce] 23 (0,0)),.row ev 3 1 es0.length (nums .i64 es0)])=>MW.matAt (k:=1) (j:=k) rfl hns hgl (by omega) hvs2
   rw [hlen2,red_get hlt,<-hm] at hat
   have hset:=fun (W:World) (MW:Mem w0 W F [.blk bs (.cells #[.slice (some ⟨ab,0,none⟩) succ.length ca,nv,u2,u3] 65 (0,0)),.mat (.slice (some ⟨ab,0,none⟩) succ.length ca) vs (succ.set n ((l.take k).map f++l.drop k)),.blk b4 (.cells #[.pointer (some ⟨bs,0,none⟩)] 63 (0,0)),.blk b12 (.cells #[.map (some bt)] 97 (0,0)),.blk bt (mI tom),.blk b7 (.cells #[.slice (some ⟨eb,1,none⟩) es.length ce] 23 (0,0)),.row ev 3 1 es0.length (nums .i64 es0)]) (x:Int)=>MW.matSet (k:=1) (i:=n) (j:=k) rfl hns (by rw [hgl];exact hvs2) x
   rw [hgl] at hset
   simp only [set_set',List.set_cons_succ,List.set_cons_zero] at hset
   have HSET:=ak_ hset
   have HAT:=ak_ hat
   obtain ⟨c3,c4,_⟩:=hat wr hM.out
   clear hat hset
   have k1:=hM.out.cell (k:=2) (j:=0) rfl rfl
   have k2:=hM.out.cell (k:=0) (j:=0) rfl rfl
   have k5:=hM.out.cell (k:=3) (j:=0) rfl rfl
   have L1:=look_I2 (hM.out.blk (k:=4) rfl) m
   have hlt':(k:Int) < l.length:=by omega
   cases q1:mget tom m with
   | none =>
    rw [q1] at L1
    have E:=ak_ (red_same (f:=f) hlt (by rw [<-hm,HF.out,redM_none q1]))
    clear q1 hm hns hgl hlen2
    go_wp2
    go_roundw
    case rel=>exact ⟨k+1,by go_num,by omega,⟨by rw [<-E.out];exact hM.out⟩⟩
    case measure=>simp [intOf];omega
   | some cc =>
    rw [q1] at L1
    have hmi:mI0 tom m=cc:=by simp [mI0,q1]
    rw [hmi] at L1
    have j7:=hM.out.cell (k:=5) (j:=0) rfl rfl
    cases q3:es.contains m with
    | true =>
     have E:=ak_ (show (l.take k).map f++l.drop k=(l.take k).map f++l.drop k/\((l.take k).map f++l.drop k).set k cc=(l.take (k+1)).map f++l.drop (k+1) by
      refine ⟨rfl,?_⟩
      rw [<-red_step hlt,<-hm,HF.out,redM_some q1,if_pos (by rw [HW.out];exact q3)])
     have Q3:=ak_ q3
     clear q3 q1 hm hns hgl hlen2 hvs2 hmi
     go_wp2_with (go_at_call 84;refine (want84 m wr b7 (some ⟨eb,1,none⟩) ce es j7 (HE.out wr hM.out) hes1 hes2).mono ?_;rintro e w5 ⟨rfl,hd⟩;have M5:=hM.out.drawn hd;rw [Q3.out];have j1:=M5.cell (k:=2) (j:=0) rfl rfl;have j2:=M5.cell (k:=0) (j:=0) rfl rfl;obtain ⟨j3,j4,j5⟩:=HAT.out w5 M5;obtain ⟨w9,s9,M9⟩:=HSET.out w5 M5 cc;have M9:=ak_ M9;have M5:=ak_ M5;clear hd)
     go_roundw
     case rel=>exact ⟨k+1,by go_num,by omega,⟨by have:=M9.out;rw [E.out.2] at this;exact this⟩⟩
     case measure=>simp [intOf];omega
    | false =>
     have E:=ak_ (red_same (f:=f) hlt (by rw [<-hm,HF.out,redM_some q1,if_neg (by rw [HW.out];simp only [q3];decide)]))
     have Q3:=ak_ q3
     clear q3 q1 hm hns hgl hlen2 hvs2 hmi
     go_wp2_with (go_at_call 84;refine (want84 m wr b7 (some ⟨eb,1,none⟩) ce es j7 (HE.out wr hM.out) hes1 hes2).mono ?_;rintro e w5 ⟨rfl,hd⟩;have M5:=hM.out.drawn hd;rw [Q3.out];have j1:=M5.cell (k:=2) (j:=0) rfl rfl;have j2:=M5.cell (k:=0) (j:=0) rfl rfl;obtain ⟨j3,j4,j5⟩:=HAT.out w5 M5;obtain ⟨w9,s9,M9⟩:=HSET.out w5 M5 cc;have M9:=ak_ M9;have M5:=ak_ M5;clear hd)
     go_roundw
     case rel=>exact ⟨k+1,by go_num,by omega,⟨by rw [<-E.out];exact M5.out⟩⟩
     case measure=>simp [intOf];omega
  ·obtain rfl:k=l.length:=by omega
   go_wp2
   go_end0
   exact ⟨rfl,by have:=hM.out;rw [List.take_length,List.drop_length,List.append_nil,HF.out,HW.out,HLL.out] at this;exact this⟩
def CopyPost (w0:World) (F:List Pc) (bs bn bi:Nat) (ev:Value) (nodes inside:List (Int × Bool)) (es0:List Int):Option (Sp × List (Int × Bool))->Ending->World->Prop
 | none,e,w'=>e=.returned (.tuple #[.map none,.bool false])/\Mem w0 w' F []
 | some (s,out),e,w'=>∃ sv vs nv bo,e=.returned (.tuple #[.map (some bo),.bool true]) /\
   Mem w0 w' F [.blk bs (.cells #[sv,nv,.int .i64 s.copies,.int .i64 s.budget] 65 (0,0)),.mat sv vs s.succ,.row nv 3 1 s.node.length (nums .i64 s.node),.blk bn (mB nodes),.blk bi (mB inside),.row ev 3 1 es0.length (nums .i64 es0),.blk bo (mB out)]
def upTo {α:Type} (R:Nat->α->α) (k:Nat) (l:List α):List α:=l.mapIdx fun i x=>if i < k then R i x else x
theorem upTo_zero {α:Type} (R:Nat->α->α) (l:List α):upTo R 0 l=l:=by
 apply List.ext_getElem?
 intro i
 simp [upTo]
theorem upTo_all {α:Type} (R:Nat->α->α) (l:List α):upTo R l.length l=l.mapIdx R:=by
 apply List.ext_getElem?
 intro i
 by_cases hi:i < l.length
 ·simp [upTo,hi]
 ·simp [upTo,List.getElem?_eq_none (Nat.le_of_not_lt hi)]
theorem upTo_length {α:Type} (R:Nat->α->α) (k:Nat) (l:List α):(upTo R k l).length=l.length:=by simp [upTo]
theorem upTo_get {α:Type} (R:Nat->α->α) (k:Nat) (l:List α) (d:α):(upTo R k l).getD k d=l.getD k d:=by
 simp only [List.getD_eq_getElem?_getD,upTo,List.getElem?_mapIdx,Nat.lt_irrefl,if_false]
 cases l[k]? <;> rfl
theorem upTo_step {α:Type} (R:Nat->α->α) (k:Nat) (l:List α) (d:α):(upTo R k l).set k (R k (l.getD k d))=upTo R (k+1) l:=by
 apply List.ext_getElem?
 intro i
 rw [List.getElem?_set]
 by_cases h:k=i
 ·subst h
  by_cases hk:k < l.length
  ·simp [upTo,hk,List.getD_eq_getElem?_getD]
  ·simp [upTo,List.getElem?_eq_none (Nat.le_of_not_lt hk)];omega
 ·have h2:(i < k+1)=(i < k):=by simp;omega
  simp [upTo,h,h2]
theorem upTo_same {α:Type} (R:Nat->α->α) (k:Nat) (l:List α) (d:α) (h:R k (l.getD k d)=l.getD k d):upTo R k l=upTo R (k+1) l:=by
 rw [<-upTo_step R k l d,h]
 apply List.ext_getElem?
 intro i
 rw [List.getElem?_set]
 by_cases h:k=i
 ·subst h
  by_cases hk:k < l.length
  ·simp [upTo,hk,List.getD_eq_getElem?_getD]
  ·simp [upTo,List.getElem?_eq_none (Nat.le_of_not_lt hk)];omega
 ·simp [h]
set_option maxRecDepth 100000 in
set_option maxHeartbeats 4000000 in
theorem copy_any (w0:World) (F:List Pc) (bs bn bi eb ce:Nat) (sv nv ev:Value) (vs:List Value) (s:Sp) (nodes inside:List (Int × Bool)) (es es0:List Int) (r:Option (Sp × List (Int × Bool))) (w:World)
  (hes1:es.length<=ce) (he:∀ W,W.ownsRow 0 3 1 ev es0.length (nums .i64 es0)->kI.C W (some ⟨eb,1,none⟩) es.length es)
  (M:Mem w0 w F [.blk bs (.cells #[sv,nv,.int .i64 s.copies,.int .i64 s.budget] 65 (0,0)),.mat sv vs s.succ,.row nv 3 1 s.node.length (nums .i64 s.node),.blk bn (mB nodes),.blk bi (mB inside),.row ev 3 1 es0.length (nums .i64 es0)])
  (h:copyF s nodes inside es=some r) :
  Calls Try.prog 60 #[.pointer (some ⟨bs,0,none⟩),.map (some bn),.map (some bi),.slice (some ⟨eb,1,none⟩) es.length ce] w (CopyPost w0 F bs bn bi ev nodes inside es0 r):=by
 obtain ⟨succ,node,copies,budget⟩:=s
 simp only [copyF] at h
 by_cases hg:nodes.length<=1000000/\0<=copies/\copies<=1000000000/\es.length<=1000000
 ·rw [if_pos hg] at h
  obtain ⟨hn6,hc0,hc1,hes2⟩:=hg
  obtain ⟨As,cs,rfl,_,_⟩:=M.matC (k:=1) rfl
  obtain ⟨b4,w1,z4,a4,M1⟩:=M.alloc (.cells #[.pointer (some ⟨bs,0,none⟩)] 63)
  obtain ⟨b7,w2,z7,a7,M2⟩:=M1.alloc (.cells #[.slice (some ⟨eb,1,none⟩) es.length ce] 23)
  obtain ⟨w3,z3,M3⟩:=M2.drew
  obtain ⟨N,hN⟩:∃ N,N=nodes.length:=⟨_,rfl⟩
  have k1:=M3.cell (k:=6) (j:=0) rfl rfl
  have k2:=M3.cell (k:=0) (j:=2) rfl rfl
  have k3:=M3.free (k:=0) (j:=2) rfl
  have k4:=len_B (M3.blk (k:=3) rfl) 3
  rw [<-hN] at k4 hn6 h
  obtain ⟨w4,s4,M4⟩:=M3.set (k:=0) 2 rfl (.int .i64 (copies+N))
  obtain ⟨w5,z5,M5⟩:=M4.drew
  have c1:=M5.cell (k:=6) (j:=0) rfl rfl
  have c2:=M5.cell (k:=0) (j:=2) rfl rfl
  have c3:=M5.cell (k:=0) (j:=3) rfl rfl
  have hw1:IntKind.i64.wrap (copies+N)=copies+N:=IntWalk.i64_in _ (by omega)
  have H:=ak_ h
  have HE:=ak_ he
  have MM:=ak_ M5
  have HN:=ak_ hN
  clear M M1 M2 M3 M4 M5 h he hN
  by_cases hbig:budget < copies+N
  ·have HH:=H.out
   rw [if_pos hbig] at HH
   obtain rfl:=Option.some.inj HH
   clear HH
   go_enter Try.func60,Try.ntmps60
   go_wp2_with (first | (rw [z3]) | (refine wp_region_txt (fun _=>True) [] (by kernel_rfl) (by kernel_rfl) ?_) | (with_reducible refine wpT_nil ?_) | (refine wpT_W (v:=?_) trivial (by decide) (wn_ rfl) (fun _ hS_=>?_) ?_;rotate_left;(focus ((try dsimp only at hS_);go_simp;rfl));(simp only [Act.put,sA_,sB_,sC_])) | (refine wpT_R (v:=?_) trivial (by decide) (wn_ rfl) ?_ ?_;rotate_left;(focus (go_simp;rfl));(simp only [Act.put,sA_,sB_,sC_])) | (refine wpT_A (v:=?_) (ob:=?_) trivial (by decide) (wn_ rfl) ?_ ?_ ?_;rotate_left 2;(focus (go_simp;first | (constructor <;> rfl) | rfl));(focus (exact trivial));(simp only [Act.put,sA_,sB_,sC_])))
   (refine wpT_L trivial (by decide) (wn_ rfl) (fun K_ hK_=>?_);go_simp;refine hK_ _ _ trivial ?_;clear hK_)
   go_wp2_with (first | (rw [z5]) | (refine wp_region_txt (fun _=>True) [] (by kernel_rfl) (by kernel_rfl) ?_) | (with_reducible refine wpT_nil ?_) | (refine wpT_W (v:=?_) trivial (by decide) (wn_ rfl) (fun _ hS_=>?_) ?_;rotate_left;(focus ((try dsimp only at hS_);go_simp;rfl));(simp only [Act.put,sA_,sB_,sC_])) | (refine wpT_R (v:=?_) trivial (by decide) (wn_ rfl) ?_ ?_;rotate_left;(focus (go_simp;rfl));(simp only [Act.put,sA_,sB_,sC_])) | (refine wpT_A (v:=?_) (ob:=?_) trivial (by decide) (wn_ rfl) ?_ ?_ ?_;rotate_left 2;(focus (go_simp;first | (constructor <;> rfl) | rfl));(focus (exact trivial));(simp only [Act.put,sA_,sB_,sC_])))
   go_ret2
   exact ⟨rfl,(MM.out.focus [] rfl).sub⟩
  ·have HH:=H.out
   rw [if_neg hbig] at HH
   have HH:=ak_ HH
   clear H
   go_enter Try.func60,Try.ntmps60
   go_wp2_with (first | (rw [z3]) | (refine wp_region_txt (fun _=>True) [] (by kernel_rfl) (by kernel_rfl) ?_) | (with_reducible refine wpT_nil ?_) | (refine wpT_W (v:=?_) trivial (by decide) (wn_ rfl) (fun _ hS_=>?_) ?_;rotate_left;(focus ((try dsimp only at hS_);go_simp;rfl));(simp only [Act.put,sA_,sB_,sC_])) | (refine wpT_R (v:=?_) trivial (by decide) (wn_ rfl) ?_ ?_;rotate_left;(focus (go_simp;rfl));(simp only [Act.put,sA_,sB_,sC_])) | (refine wpT_A (v:=?_) (ob:=?_) trivial (by decide) (wn_ rfl) ?_ ?_ ?_;rotate_left 2;(focus (go_simp;first | (constructor <;> rfl) | rfl));(focus (exact trivial));(simp only [Act.put,sA_,sB_,sC_])))
   (refine wpT_L trivial (by decide) (wn_ rfl) (fun K_ hK_=>?_);go_simp;refine hK_ _ _ trivial ?_;clear hK_)
   go_upto_region 4 with (first | (rw [z5]) | (refine wp_region_txt (fun _=>True) [] (by kernel_rfl) (by kernel_rfl) ?_) | (with_reducible refine wpT_nil ?_) | (refine wpT_W (v:=?_) trivial (by decide) (wn_ rfl) (fun _ hS_=>?_) ?_;rotate_left;(focus ((try dsimp only at hS_);go_simp;rfl));(simp only [Act.put,sA_,sB_,sC_])) | (refine wpT_R (v:=?_) trivial (by decide) (wn_ rfl) ?_ ?_;rotate_left;(focus (go_simp;rfl));(simp only [Act.put,sA_,sB_,sC_])) | (refine wpT_A (v:=?_) (ob:=?_) trivial (by decide) (wn_ rfl) ?_ ?_ ?_;rotate_left 2;(focus (go_simp;first | (constructor <;> rfl) | rfl));(focus (exact trivial));(simp only [Act.put,sA_,sB_,sC_])))
   clear z3 z5 k1 k2 k3 c1 c2 c3 s4 a4 a7 z4 z7 k4
   obtain ⟨L,hLL⟩:∃ L,L=nodes.map fun p=>(p.1,Value.bool p.2):=⟨_,rfl⟩
   have hLs:L.length=N:=by rw [hLL,HN.out];simp
   have M5:Mem w0 w5 F [.blk bs (.cells #[.slice As succ.length cs,nv,.int .i64 (copies+N),.int .i64 budget] 65 (0,0)),.mat (.slice As succ.length cs) vs succ,.row nv 3 1 node.length (nums .i64 node),.blk bn (mObj L),.blk bi (mB inside),.row ev 3 1 es0.length (nums .i64 es0),.blk b4 (.cells #[.pointer (some ⟨bs,0,none⟩)] 63 (0,0)),.blk b7 (.cells #[.slice (some ⟨eb,1,none⟩) es.length ce] 23 (0,0))]:=by
    have:=MM.out
    rw [show mB nodes=mObj L by rw [hLL];rfl] at this
    exact this
   have hkeys:L.map (·.1)=nodes.map (·.1):=by rw [hLL];simp
   have k4:=len_B (m:=nodes) (by have:=M5.blk (k:=3) rfl;rw [hLL] at this;exact this) 3
   rw [<-HN.out] at k4
   have hmk:=fun W=>Go.run_make_room (P:=Try.prog) 23 3 (.int .i64 0) 8 Try.underlying23 PShapeReducible.info3 rfl .i64 .i64 N (by omega) (by omega) W
   obtain ⟨b10,w6,z10,a10,M6⟩:=M5.make N (by omega)
   obtain ⟨rI,w7,hr7,M7⟩:=M6.range (P:=Try.prog) (j:=3) Try.underlying68 rfl hLs
   have IT:=ak_ M7
   have HLL:=ak_ hLL
   have HLS:=ak_ hLs
   have HKEY:=ak_ hkeys
   clear MM M5 M6 M7 hLL hLs hkeys
   go_wp2_with fail
   clear k4 hmk z10 a10 hr7
   go_loopg [10] (N+1) (fun kq v10 wr=>∃ seen:List Nat,seen.length+kq=N+1/\Aside0 (seen.Nodup/\∀ i∈seen,i < N)/\Aside0 (Mem w0 wr F [.blk bs (.cells #[.slice As succ.length cs,nv,.int .i64 (copies+N),.int .i64 budget] 65 (0,0)),.mat (.slice As succ.length cs) vs succ,.row nv 3 1 node.length (nums .i64 node),.blk bn (mObj L),.blk bi (mB inside),.row ev 3 1 es0.length (nums .i64 es0),.blk b4 (.cells #[.pointer (some ⟨bs,0,none⟩)] 63 (0,0)),.blk b7 (.cells #[.slice (some ⟨eb,1,none⟩) es.length ce] 23 (0,0)),.row v10 3 1 seen.length (nums .i64 (keysOf L seen)),.blk rI (.mapIter (some bn) N seen.toArray N)]))
   case atStart=>exact ⟨[],by simp,⟨by simp,by simp⟩,IT⟩
   case round =>
    obtain ⟨seen,hsn,hS,hM⟩:=hrel
    obtain ⟨A10,c10,rfl⟩:=hM.out.rowSlice (k:=8) rfl
    rcases hM.out.next (P:=Try.prog) (k:=9) (j:=3) rfl rfl HLS.out hS.out.1 hS.out.2 0 with ⟨hend,hrun⟩ | ⟨i,x,y,w2,hxy,hns,hnd,hlt,hsl,hrun,hentry,M2⟩
    ·have hI:(seen.map fun i=>(L.getD i (0,.int .i64 0)).1).Perm (L.map (·.1)):=seen_keys hS.out.1 (by rw [HLS.out];exact hS.out.2) (by rw [HLS.out];exact hend)
     have hks:sortI (keysOf L seen)=sortI (nodes.map (·.1)):=by rw [<-HKEY.out];exact sortI_perm hI
     obtain ⟨ord,hord⟩:∃ ord,ord=sortI (nodes.map (·.1)):=⟨_,rfl⟩
     have hol:ord.length=N:=by rw [hord,HN.out];simp [sortI]
     obtain ⟨q,hq,hq2⟩:=Option.bind_eq_some_iff.1 HH.out
     rw [<-hord] at hq
     have hkl:(keysOf L seen).length=N:=by simp [keysOf,hend]
     have M8:Mem w0 wr F [.blk bs (.cells #[.slice As succ.length cs,nv,.int .i64 (copies+N),.int .i64 budget] 65 (0,0)),.mat (.slice As succ.length cs) vs succ,.row nv 3 1 node.length (nums .i64 node),.blk bn (mObj L),.blk bi (mB inside),.row ev 3 1 es0.length (nums .i64 es0),.blk b4 (.cells #[.pointer (some ⟨bs,0,none⟩)] 63 (0,0)),.blk b7 (.cells #[.slice (some ⟨eb,1,none⟩) es.length ce] 23 (0,0)),.row (.slice A10 N c10) 3 1 (keysOf L seen).length (nums .i64 (keysOf L seen)),.blk rI (.mapIter (some bn) N seen.toArray N)]:=by
      have:=hM.out
      rw [hend] at this
      rw [hkl]
      exact this
     have hmm:=@run_makeMap Try.prog
     have M8:=ak_ M8
     have HO:=ak_ hord
     have HQ:=ak_ hq
     have HQ2:=ak_ hq2
     have HKS:=ak_ hks
     have HOL:=ak_ hol
     have HKL:=ak_ hkl
     have HEN:=ak_ hend
     clear hI hks hord hq hq2 hM hol hkl
     go_wp2_with (first
      | (go_at_call 81;refine (M8.out.sort (k:=8) rfl (by rw [HKL.out];omega)).mono ?_;rintro e w9 ⟨rfl,M9⟩;obtain ⟨bt,w11,z11,a11,M11⟩:=M9.alloc (.map #[] 0);obtain ⟨b12,w12,z12,a12,M12⟩:=M11.alloc (.cells #[.map (some bt)] 97);obtain ⟨bo,w13,z13,a13,M13⟩:=M12.alloc (.map #[] 0);have j1:=M13.cell (k:=6) (j:=0) rfl rfl;have j2:=M13.cell (k:=0) (j:=0) rfl rfl;have M13:=ak_ M13;clear M9 M11 M12))
     clear j1 j2 z11 z12 z13 a11 a12 a13 hmm hrun
     have hLP:Mem w0 w13 F [.blk bs (.cells #[.slice As succ.length cs,nv,.int .i64 (copies+N),.int .i64 budget] 65 (0,0)),.mat (.slice As succ.length cs) vs succ,.row nv 3 1 node.length (nums .i64 node),.blk bn (mObj L),.blk bi (mB inside),.row ev 3 1 es0.length (nums .i64 es0),.blk b4 (.cells #[.pointer (some ⟨bs,0,none⟩)] 63 (0,0)),.blk b7 (.cells #[.slice (some ⟨eb,1,none⟩) es.length ce] 23 (0,0)),.row (.slice A10 N c10) 3 1 N (nums .i64 ord),.blk bt (mI []),.blk b12 (.cells #[.map (some bt)] 97 (0,0)),.blk bo (mB [])]:=by
      have:=M13.out.lose (k:=9) rfl
      rw [HKL.out,HKS.out,<-HO.out] at this
      exact this
     have LP:=ak_ hLP
     clear hLP
     obtain ⟨f0,hf0⟩:∃ f0,f0=succ.length:=⟨_,rfl⟩
     rw [<-hf0] at HQ HQ2
     have HQ:=ak_ HQ
     have HF0:=ak_ hf0
     rw [<-hf0]
     clear hf0
     go_loopw [61] (fun t wr=>∃ (i:Nat) (tom:List (Int × Int)) (out:List (Int × Bool)) (succ':List (List Int)) (node':List Int) (As':Option Addr) (cs':Nat) (nv':Value) (vs':List Value),t=.int .i64 i/\i<=N/\Aside0 (copyAdd f0 (ord.drop i) i tom out succ' node'=some q) /\
      Aside0 (Mem w0 wr F [.blk bs (.cells #[.slice As' succ'.length cs',nv',.int .i64 (copies+N),.int .i64 budget] 65 (0,0)),.mat (.slice As' succ'.length cs') vs' succ',.row nv' 3 1 node'.length (nums .i64 node'),.blk bn (mObj L),.blk bi (mB inside),.row ev 3 1 es0.length (nums .i64 es0),.blk b4 (.cells #[.pointer (some ⟨bs,0,none⟩)] 63 (0,0)),.blk b7 (.cells #[.slice (some ⟨eb,1,none⟩) es.length ce] 23 (0,0)),.row (.slice A10 N c10) 3 1 N (nums .i64 ord),.blk bt (mI tom),.blk b12 (.cells #[.map (some bt)] 97 (0,0)),.blk bo (mB out)])) (fun t _=>N - (intOf t).toNat)
     case atStart=>exact ⟨0,_,_,_,_,_,_,_,_,rfl,Nat.zero_le _,by simpa using HQ.out,LP⟩
     case round =>
      obtain ⟨i,tom,out,succ',node',As',cs',nv',vs',rfl,hi,hA,hM⟩:=hrel
      by_cases hlt:i < N
      ·have h1:=hA.out
       obtain ⟨n,hn⟩:∃ n,n=ord.getD i 0:=⟨_,rfl⟩
       have hio:i < ord.length:=by rw [HOL.out];exact hlt
       rw [List.drop_eq_getElem_cons hio,show ord[i]=n by simp [hn,List.getD_eq_getElem?_getD,hio]] at h1
       simp only [copyAdd] at h1
       by_cases hg2:(0<=n/\n < succ'.length)/\n < node'.length/\(i+f0<=1000000/\succ'.length<=1000000/\node'.length<=1000000)/\(succ'.getD n.toNat []).length<=1000000000
       ·rw [if_pos hg2] at h1
        obtain ⟨⟨hn0,hn1⟩,hn2,⟨hn3,hn4,hn5⟩,hrl⟩:=hg2
        obtain ⟨n,rfl⟩:=Int.eq_ofNat_of_zero_le hn0
        rw [Int.toNat_natCast] at h1 hrl
        obtain ⟨l,hl⟩:∃ l,l=succ'.getD n []:=⟨_,rfl⟩
        rw [<-hl] at h1 hrl
        have H1:=ak_ h1
        have HLR:=ak_ hl
        clear h1 hA
        obtain ⟨bo8,co8,e8,c8⟩:=hM.out.rowNum (k:=8) rfl HOL.out.symm hio
        simp only [Value.slice.injEq] at e8
        obtain ⟨rfl,hx8,rfl⟩:=e8
        clear hx8
        rw [<-hn] at c8
        have c12:=hM.out.cell (k:=10) (j:=0) rfl rfl
        obtain ⟨w21,p21,M21⟩:=hM.out.putI (k:=9) rfl n (f0+i)
        obtain ⟨w22,p22,M22⟩:=M21.putB (k:=11) rfl (f0+i) true
        obtain ⟨w23,z23,M23⟩:=M22.drew
        have j0:=M23.cell (k:=6) (j:=0) rfl rfl
        have j1:=M23.cell (k:=0) (j:=0) rfl rfl
        have hns:n < succ'.length:=by omega
        obtain ⟨ab,ca,Ar,cr,e1,j2,e2,e3,hC⟩:=M23.matRow (k:=1) rfl hns
        simp only [Value.slice.injEq,true_and] at e1
        obtain ⟨rfl,rfl⟩:=e1
        rw [<-hl] at j2 e3 hC
        have M23:=ak_ M23
        have HC:=ak_ hC
        have hlt':(i:Int) < N:=by omega
        clear hn hl hC M21 M22 e2
        go_wp2_with (first | (rw [z23]) | (refine wp_region_txt (fun W=>W.cell? ⟨b4,0,none⟩=some (.pointer (some ⟨bs,0,none⟩))) [0,1,5,1012] (by kernel_rfl) (by kernel_rfl) ?_))
        iterate 12 ((first | (with_reducible refine wpT_nil ?_) | (refine wpT_W (v:=?_) (by assumption) (by decide) (wn_ rfl) (fun _ hS_=>?_) ?_;rotate_left;(focus ((try dsimp only at hS_);go_simp;rfl))) | (refine wpT_R (v:=?_) (by assumption) (by decide) (wn_ rfl) ?_ ?_;rotate_left;(focus (go_simp;rfl))) | (refine wpT_A (v:=?_) (ob:=?_) (by assumption) (by decide) (wn_ rfl) ?_ ?_ ?_;rotate_left 2;(focus (go_simp;first | (constructor <;> rfl) | rfl));(focus (apply cell_alloc;assumption))));(try simp only [Act.put,sA_,sB_,sC_]))
        refine wpT_LA j0 (by decide) (wn_ rfl) (fun K_ hK_=>?_)
        go_wp2_with (go_at_call 37;refine (M23.out.clone HC.out hrl).mono ?_;rintro e w24 ⟨A4,c4,rfl,M24,hx4⟩;have j4:w24.cell? ⟨b4,0,none⟩=some (.pointer (some ⟨bs,0,none⟩)):=M24.cell (k:=6) (j:=0) rfl rfl)
        refine hK_ _ _ hx4 j4 ?_
        clear hK_
        have M24:=ak_ M24
        clear hx4
        ((first | (with_reducible refine wpT_nil ?_) | (refine wpT_W (v:=?_) (by assumption) (by decide) (wn_ rfl) (fun _ hS_=>?_) ?_;rotate_left;(focus ((try dsimp only at hS_);go_simp;rfl))) | (refine wpT_R (v:=?_) (by assumption) (by decide) (wn_ rfl) ?_ ?_;rotate_left;(focus (go_simp;rfl))) | (refine wpT_A (v:=?_) (ob:=?_) (by assumption) (by decide) (wn_ rfl) ?_ ?_ ?_;rotate_left 2;(focus (go_simp;first | (constructor <;> rfl) | rfl));(focus (apply cell_alloc;assumption))));(try simp only [Act.put,sA_,sB_,sC_]))
        refine wpT_L (cell_alloc _ j4) (by decide) (wn_ rfl) (fun K_ hK_=>?_)
        refine step_mem_mat (ops:=#[]) 1 11 rfl (.tmp 79) (.tmp 88) rfl Try.underlying25 info23 _ vs' succ' (.slice A4 l.length c4) l rfl rfl rfl M24.out rfl rfl (by omega) ?_
        intro A5 c5 w25 M25
        have j5:w25.cell? ⟨b4,0,none⟩=some (.pointer (some ⟨bs,0,none⟩)):=M25.cell (k:=6) (j:=0) rfl rfl
        refine hK_ _ _ j5 ?_
        clear hK_ j4
        iterate 2 ((first | (with_reducible refine wpT_nil ?_) | (refine wpT_W (v:=?_) (by assumption) (by decide) (wn_ rfl) (fun _ hS_=>?_) ?_;rotate_left;(focus ((try dsimp only at hS_);go_simp;rfl))) | (refine wpT_R (v:=?_) (by assumption) (by decide) (wn_ rfl) ?_ ?_;rotate_left;(focus (go_simp;rfl))) | (refine wpT_A (v:=?_) (ob:=?_) (by assumption) (by decide) (wn_ rfl) ?_ ?_ ?_;rotate_left 2;(focus (go_simp;first | (constructor <;> rfl) | rfl));(focus (apply cell_alloc;assumption))));(try simp only [Act.put,sA_,sB_,sC_]))
        have d1:=M25.cell (k:=1) (j:=0) rfl rfl
        have d2:=M25.free (k:=1) (j:=0) rfl
        obtain ⟨w26,s26,M26⟩:=M25.set (k:=1) 0 rfl (.slice A5 (succ'.length+1) c5)
        obtain ⟨w27,z27,M27⟩:=M26.drew
        have d3:w26.cell? ⟨b4,0,none⟩=some (.pointer (some ⟨bs,0,none⟩)):=M26.cell (k:=6) (j:=0) rfl rfl
        have M27:=ak_ M27
        clear M25 M26
        refine wpT_L j5 (by decide) (wn_ rfl) (fun K_ hK_=>?_)
        go_simp
        refine hK_ _ _ d3 ?_
        clear hK_
        refine wpT_nil ?_
        clear j0 j1 j2 j5 d1 d2 d3 s26 p21 p22 z23 c8 c12
        obtain ⟨An,cn,rfl⟩:=M27.out.rowSlice (k:=2) rfl
        have j0:w27.cell? ⟨b4,0,none⟩=some (.pointer (some ⟨bs,0,none⟩)):=M27.out.cell (k:=6) (j:=0) rfl rfl
        have j1:=M27.out.cell (k:=1) (j:=1) rfl rfl
        have hnn:n < node'.length:=by omega
        obtain ⟨bn2,cn2,e9,j2⟩:=M27.out.rowNum (k:=2) (i:=n) rfl rfl hnn
        simp only [Value.slice.injEq] at e9
        obtain ⟨rfl,hx9,rfl⟩:=e9
        clear hx9
        obtain ⟨x,hx⟩:∃ x,x=node'.getD n 0:=⟨_,rfl⟩
        rw [<-hx] at j2
        have HX:=ak_ hx
        clear hx
        go_wp2_with (first | (rw [z27]) | (refine wp_region_txt (fun W=>W.cell? ⟨b4,0,none⟩=some (.pointer (some ⟨bs,0,none⟩))) [0] (by kernel_rfl) (by kernel_rfl) ?_))
        iterate 13 ((first | (with_reducible refine wpT_nil ?_) | (refine wpT_W (v:=?_) (by assumption) (by decide) (wn_ rfl) (fun _ hS_=>?_) ?_;rotate_left;(focus ((try dsimp only at hS_);go_simp;rfl))) | (refine wpT_R (v:=?_) (by assumption) (by decide) (wn_ rfl) ?_ ?_;rotate_left;(focus (go_simp;rfl))) | (refine wpT_A (v:=?_) (ob:=?_) (by assumption) (by decide) (wn_ rfl) ?_ ?_ ?_;rotate_left 2;(focus (go_simp;first | (constructor <;> rfl) | rfl));(focus (apply cell_alloc;assumption))));(try simp only [Act.put,sA_,sB_,sC_]))
        refine wpT_L (cell_alloc _ j0) (by decide) (wn_ rfl) (fun K_ hK_=>?_)
        refine step_mem_app (ops:=#[]) 2 rfl (.tmp 96) (.tmp 104) 23 3 (.int .i64 0) 1 8 rfl Try.underlying23 PShapeReducible.info3 rfl (by decide) (by decide) _ node'.length (nums .i64 node') [.int .i64 x] rfl rfl rfl (by simp [Value.oneCell']) M27.out rfl (by omega) ?_
        intro A7 c7 w28 M28
        have j5:w28.cell? ⟨b4,0,none⟩=some (.pointer (some ⟨bs,0,none⟩)):=M28.cell (k:=6) (j:=0) rfl rfl
        refine hK_ _ _ j5 ?_
        clear hK_
        iterate 2 ((first | (with_reducible refine wpT_nil ?_) | (refine wpT_W (v:=?_) (by assumption) (by decide) (wn_ rfl) (fun _ hS_=>?_) ?_;rotate_left;(focus ((try dsimp only at hS_);go_simp;rfl))) | (refine wpT_R (v:=?_) (by assumption) (by decide) (wn_ rfl) ?_ ?_;rotate_left;(focus (go_simp;rfl))) | (refine wpT_A (v:=?_) (ob:=?_) (by assumption) (by decide) (wn_ rfl) ?_ ?_ ?_;rotate_left 2;(focus (go_simp;first | (constructor <;> rfl) | rfl));(focus (apply cell_alloc;assumption))));(try simp only [Act.put,sA_,sB_,sC_]))
        have d1:=M28.cell (k:=1) (j:=1) rfl rfl
        have d2:=M28.free (k:=1) (j:=1) rfl
        obtain ⟨w29,s29,M29⟩:=M28.set (k:=1) 1 rfl (.slice A7 (node'.length+1) c7)
        have d3:w29.cell? ⟨b4,0,none⟩=some (.pointer (some ⟨bs,0,none⟩)):=M29.cell (k:=6) (j:=0) rfl rfl
        have M29:=ak_ M29
        clear M28
        refine wpT_L j5 (by decide) (wn_ rfl) (fun K_ hK_=>?_)
        go_simp
        refine hK_ _ _ d3 ?_
        clear hK_
        refine wpT_nil ?_
        clear j0 j1 j2 j5 d1 d2 d3 s29 z27
        go_wp2
        go_roundw
        case rel =>
         refine ⟨i+1,_,_,_,_,A5,c5,.slice A7 (node'.length+1) c7,vs'++[.slice A4 l.length c4],by go_num,by omega,H1,⟨?_⟩⟩
         have:=M29.out.order [1,0] rfl
         rw [<-HX.out,List.length_append,List.length_append,nums_append,List.length_singleton,List.length_singleton]
         exact this
        case measure=>simp [intOf];omega
       ·rw [if_neg hg2] at h1;cases h1
      ·obtain rfl:N=i:=by omega
       have h1:=hA.out
       rw [<-HOL.out,List.drop_length] at h1
       simp only [copyAdd,Option.some.injEq] at h1
       obtain ⟨tomq,outq,succq,nodeq⟩:=q
       simp only [Prod.mk.injEq] at h1
       obtain ⟨rfl,rfl,rfl,rfl⟩:=h1
       have h2:=HQ2.out
       simp only at h2
       by_cases hg3:succ'.length<=1000000/\∀ l∈succ',l.length<=1000000000
       ·rw [if_pos hg3] at h2
        obtain ⟨hs6,hrows⟩:=hg3
        obtain ⟨R,hR⟩:∃ R,R=redRow tom inside es f0:=⟨_,rfl⟩
        have M30:=ak_ (show Mem w0 wr F [.blk bs (.cells #[.slice As' succ'.length cs',nv',.int .i64 (copies+N),.int .i64 budget] 65 (0,0)),.mat (.slice As' succ'.length cs') vs' (upTo R 0 succ'),.blk b4 (.cells #[.pointer (some ⟨bs,0,none⟩)] 63 (0,0)),.blk b12 (.cells #[.map (some bt)] 97 (0,0)),.blk bt (mI tom),.blk b7 (.cells #[.slice (some ⟨eb,1,none⟩) es.length ce] 23 (0,0)),.row ev 3 1 es0.length (nums .i64 es0),.row nv' 3 1 node'.length (nums .i64 node'),.blk bn (mObj L),.blk bi (mB inside),.row (.slice A10 N c10) 3 1 N (nums .i64 ord),.blk bo (mB out)] from by rw [upTo_zero];exact hM.out.order [0,1,6,10,9,7,5] rfl)
        have j1:=hM.out.cell (k:=6) (j:=0) rfl rfl
        have j2:=hM.out.cell (k:=0) (j:=0) rfl rfl
        have HR:=ak_ hR
        have HRW:=ak_ hrows
        have H2:=ak_ h2
        clear hM hA hR hrows h2
        go_wp2
        clear j1 j2
        go_loopw [115] (fun t wq=>∃ k:Nat,t=.int .i64 k/\k<=succ'.length/\Aside0 (Mem w0 wq F [.blk bs (.cells #[.slice As' succ'.length cs',nv',.int .i64 (copies+N),.int .i64 budget] 65 (0,0)),.mat (.slice As' succ'.length cs') vs' (upTo R k succ'),.blk b4 (.cells #[.pointer (some ⟨bs,0,none⟩)] 63 (0,0)),.blk b12 (.cells #[.map (some bt)] 97 (0,0)),.blk bt (mI tom),.blk b7 (.cells #[.slice (some ⟨eb,1,none⟩) es.length ce] 23 (0,0)),.row ev 3 1 es0.length (nums .i64 es0),.row nv' 3 1 node'.length (nums .i64 node'),.blk bn (mObj L),.blk bi (mB inside),.row (.slice A10 N c10) 3 1 N (nums .i64 ord),.blk bo (mB out)])) (fun t _=>succ'.length - (intOf t).toNat)
        case atStart=>exact ⟨0,rfl,Nat.zero_le _,M30⟩
        case round =>
         obtain ⟨k,rfl,hk,hM3⟩:=hrel
         by_cases hks:k < succ'.length
         ·have hks':(k:Int) < succ'.length:=by omega
          have hrl:((upTo R k succ').getD k []).length<=1000000000:=by
           rw [upTo_get,List.getD_eq_getElem?_getD,List.getElem?_eq_getElem hks]
           exact HRW.out _ (List.getElem_mem hks)
          have hkl:k < (upTo R k succ').length:=by rw [upTo_length];exact hks
          by_cases hfk:f0<=k
          ·have hfk':(f0:Int)<=k:=by omega
           have E:=ak_ (show (upTo R k succ').set k (((upTo R k succ').getD k []).map (redM tom fun _=>true))=upTo R (k+1) succ' by
            rw [upTo_get,<-upTo_step R k succ' [],HR.out,redRow,if_pos hfk])
           go_wp2_with (go_at_call 82;refine (redirect_83 w0 _ bs b4 b12 bt _ nv' _ _ vs' _ tom k wr hkl hrl (hM3.out.focus [0,1,2,3,4] rfl)).mono ?_;rintro e w31 ⟨rfl,M31⟩;rw [E.out] at M31;have M31:=ak_ (show Mem w0 w31 F [.blk bs (.cells #[.slice As' succ'.length cs',nv',.int .i64 (copies+N),.int .i64 budget] 65 (0,0)),.mat (.slice As' succ'.length cs') vs' (upTo R (k+1) succ'),.blk b4 (.cells #[.pointer (some ⟨bs,0,none⟩)] 63 (0,0)),.blk b12 (.cells #[.map (some bt)] 97 (0,0)),.blk bt (mI tom),.blk b7 (.cells #[.slice (some ⟨eb,1,none⟩) es.length ce] 23 (0,0)),.row ev 3 1 es0.length (nums .i64 es0),.row nv' 3 1 node'.length (nums .i64 node'),.blk bn (mObj L),.blk bi (mB inside),.row (.slice A10 N c10) 3 1 N (nums .i64 ord),.blk bo (mB out)] from M31.wide))
           go_roundw
           case rel=>exact ⟨k+1,by go_num,by omega,M31⟩
           case measure=>simp [intOf];omega
          ·have hfk':(k:Int) < f0:=by omega
           have L1:=look_B (hM3.out.blk (k:=9) rfl) k
           cases q1:mB0 inside k with
           | true =>
            rw [q1] at L1
            have E:=ak_ (show upTo R k succ'=upTo R (k+1) succ' from upTo_same R k succ' [] (by rw [HR.out,redRow,if_neg hfk,if_pos q1]))
            clear q1
            go_wp2
            go_roundw
            case rel=>exact ⟨k+1,by go_num,by omega,by rw [<-E.out];exact hM3⟩
            case measure=>simp [intOf];omega
           | false =>
            rw [q1] at L1
            have E:=ak_ (show (upTo R k succ').set k (((upTo R k succ').getD k []).map (redM tom fun m=>es.contains m))=upTo R (k+1) succ' by
             rw [upTo_get,<-upTo_step R k succ' [],HR.out,redRow,if_neg hfk,if_neg (by rw [q1];decide)])
            clear q1
            go_wp2_with (go_at_call 82;refine (redirect_84 w0 _ bs b4 b12 bt _ nv' _ _ vs' _ tom b7 eb ce ev es es0 hes1 hes2 HE.out k wr hkl hrl (hM3.out.focus [0,1,2,3,4,5,6] rfl)).mono ?_;rintro e w31 ⟨rfl,M31⟩;rw [E.out] at M31;have M31:=ak_ (show Mem w0 w31 F [.blk bs (.cells #[.slice As' succ'.length cs',nv',.int .i64 (copies+N),.int .i64 budget] 65 (0,0)),.mat (.slice As' succ'.length cs') vs' (upTo R (k+1) succ'),.blk b4 (.cells #[.pointer (some ⟨bs,0,none⟩)] 63 (0,0)),.blk b12 (.cells #[.map (some bt)] 97 (0,0)),.blk bt (mI tom),.blk b7 (.cells #[.slice (some ⟨eb,1,none⟩) es.length ce] 23 (0,0)),.row ev 3 1 es0.length (nums .i64 es0),.row nv' 3 1 node'.length (nums .i64 node'),.blk bn (mObj L),.blk bi (mB inside),.row (.slice A10 N c10) 3 1 N (nums .i64 ord),.blk bo (mB out)] from M31.wide))
            go_roundw
            case rel=>exact ⟨k+1,by go_num,by omega,M31⟩
            case measure=>simp [intOf];omega
         ·obtain rfl:k=succ'.length:=by omega
          have hr:=Option.some.inj H2.out
          subst hr
          go_wp2
          go_ret2
          refine ⟨.slice As' succ'.length cs',vs',nv',bo,rfl,?_⟩
          have:=hM3.out
          rw [upTo_all] at this
          have h9:=(this.focus [0,1,7,8,9,6,11] rfl).sub
          rw [HLL.out,HR.out] at h9
          exact h9
       ·rw [if_neg hg3] at h2;cases h2
    ·have hkx:keysOf L (seen++[i])=keysOf L seen++[x]:=by simp [keysOf,List.getD_eq_getElem?_getD,hxy]
     have M2:=ak_ M2
     have HKX:=ak_ hkx
     have HS2:=ak_ (And.intro hnd hlt)
     clear hkx hxy hns hnd hlt
     go_wp2_with (first
      | ((with_reducible refine gate_dst (N:=49) rfl ?_);refine mem_append 8 (.tmp 46) (.tmp 48) 23 3 (.int .i64 0) 1 8 rfl rfl Try.underlying23 PShapeReducible.info3 rfl (by decide) (by decide) _ seen.length (nums .i64 (keysOf L seen)) [.int .i64 x] rfl rfl rfl (by simp [Value.oneCell']) M2.out rfl (by omega) ?_;intro A c w3 M3;have M3:=ak_ M3))
     go_roundg (gk - 1)
     case measure=>omega
     case rel=>exact ⟨seen++[i],by simp;omega,HS2,⟨by rw [HKX.out,List.length_append,nums_append];exact M3.out⟩⟩
 ·rw [if_neg hg] at h;cases h
end Go.Proofs.Ytfiiihpdekppiaa
end
