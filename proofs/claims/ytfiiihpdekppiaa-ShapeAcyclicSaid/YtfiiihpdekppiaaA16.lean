/- A part of the proof that vellumlaw12.ShapeAcyclic is true for every input: walks of functions that the row reaches and plain laws that they need. Conditions: none. Joined by merge.py out of B11 C21 C22 S9 C23; a part that began as a print is named P or W there and is trimmed. -/
import Derived.Test.YtfiiihpdekppiaaA12
import Derived.Test.YtfiiihpdekppiaaA13
set_option linter.unusedVariables false
set_option linter.unusedSimpArgs false
section
namespace Go.Proofs.Ytfiiihpdekppiaa
open Go.RowKit Go.Proofs Go.Proofs.YtfiiihpdekppiaaW.PrintWords
open Go.ChangeMaps (setBlock heap_setBlock_same heap_setBlock_other)
def recs:List (List Value)->List Value->List Value
 | h :: hs,v :: vs=>h++v :: recs hs vs
 | _,_=>[]
theorem recs_len {m:Nat}:∀ {hs:List (List Value)} {vs:List Value},hs.length=vs.length->(∀ h∈hs,h.length=m)->(recs hs vs).length=hs.length * (m+1)
 | [],[],_,_=>by simp [recs]
 | h :: hs,v :: vs,hl,hm=>by
  have ih:=recs_len (hs:=hs) (vs:=vs) (by simpa using hl) (fun x hx=>hm x (by simp [hx]))
  have:=hm h (by simp)
  simp only [recs,List.length_append,List.length_cons,ih,this,Nat.add_mul]
  omega
theorem recs_get {m:Nat}:∀ {hs:List (List Value)} {vs:List Value},hs.length=vs.length->(∀ h∈hs,h.length=m)->∀ {i j:Nat},i < hs.length->j<=m->(recs hs vs)[i * (m+1)+j]?=(hs.getD i []++[vs.getD i nilS])[j]?
 | [],_,_,_,i,j,hi,_=>by simp at hi
 | h :: hs,[],hl,_,_,_,_,_=>by simp at hl
 | h :: hs,v :: vs,hl,hm,i,j,hi,hj=>by
  have h0:=hm h (by simp)
  cases i with
  | zero =>
   simp only [recs,Nat.zero_mul,Nat.zero_add,List.getD_cons_zero]
   rcases Nat.lt_or_ge j m with h1 | h1
   ·rw [List.getElem?_append_left (by omega),List.getElem?_append_left (by omega)]
   ·have:j=m:=by omega
    subst this
    rw [List.getElem?_append_right (by omega),List.getElem?_append_right (by omega),h0]
    simp
  | succ i =>
   have ih:=recs_get (hs:=hs) (vs:=vs) (by simpa using hl) (fun x hx=>hm x (by simp [hx])) (i:=i) (j:=j) (by simpa using hi) hj
   simp only [recs,List.getD_cons_succ]
   rw [<-ih,List.getElem?_append_right (by rw [h0,Nat.add_mul];omega),h0,show (i+1) * (m+1)+j - m=(i * (m+1)+j)+1 by rw [Nat.add_mul];omega,List.getElem?_cons_succ]
theorem recs_snoc:∀ {hs:List (List Value)} {vs:List Value} (h:List Value) (v:Value),hs.length=vs.length->recs (hs++[h]) (vs++[v])=recs hs vs++(h++[v])
 | [],[],h,v,_=>by simp [recs]
 | a :: hs,b :: vs,h,v,hl=>by
  have ih:=recs_snoc (hs:=hs) (vs:=vs) h v (by simpa using hl)
  simp only [List.cons_append,recs,ih,List.append_assoc]
 | [],_ :: _,_,_,hl=>by simp at hl
 | _ :: _,[],_,_,hl=>by simp at hl
theorem recs_set {m:Nat}:∀ {hs:List (List Value)} {vs:List Value},hs.length=vs.length->(∀ h∈hs,h.length=m)->∀ {i:Nat},i < hs.length->∀ u:Value,(recs hs vs).set (i * (m+1)+m) u=recs hs (vs.set i u)
 | [],_,_,_,i,hi,_=>by simp at hi
 | h :: hs,[],hl,_,_,_,_=>by simp at hl
 | h :: hs,v :: vs,hl,hm,i,hi,u=>by
  have h0:=hm h (by simp)
  cases i with
  | zero =>
   simp only [recs,Nat.zero_mul,Nat.zero_add,List.set_cons_zero]
   rw [List.set_append_right _ _ (by omega),h0]
   simp
  | succ i =>
   have ih:=recs_set (hs:=hs) (vs:=vs) (by simpa using hl) (fun x hx=>hm x (by simp [hx])) (i:=i) (by simpa using hi) u
   simp only [recs,List.set_cons_succ]
   rw [<-ih,List.set_append_right _ _ (by rw [h0,Nat.add_mul];omega),h0,show (i+1) * (m+1)+m - m=(i * (m+1)+m)+1 by rw [Nat.add_mul];omega,List.set_cons_succ]
theorem recs_take {m:Nat}:∀ {hs:List (List Value)} {vs:List Value},hs.length=vs.length->(∀ h∈hs,h.length=m)->∀ (k:Nat),(recs hs vs).take (k * (m+1))=recs (hs.take k) (vs.take k)
 | [],[],_,_,k=>by simp [recs]
 | [],_ :: _,hl,_,_=>by simp at hl
 | h :: hs,[],hl,_,_=>by simp at hl
 | h :: hs,v :: vs,hl,hm,k=>by
  have h0:=hm h (by simp)
  cases k with
  | zero=>simp [recs]
  | succ k =>
   have ih:=recs_take (hs:=hs) (vs:=vs) (by simpa using hl) (fun x hx=>hm x (by simp [hx])) k
   simp only [recs,List.take_succ_cons,<-ih]
   rw [List.take_append,List.take_of_length_le (by rw [h0,Nat.add_mul];omega),h0,show (k+1) * (m+1) - m=k * (m+1)+1 by rw [Nat.add_mul];omega,List.take_succ_cons]
section
variable {w0 w w' : World} {F H L : List Pc}
theorem MemL.split {c d e:Pc} (h:MemL w0 w (c :: L)) (hd:d.says w) (he:e.says w) (hdf:∀ b,d.foot b->c.foot b) (hef:∀ b,e.foot b->c.foot b) (hap:Dis d e):MemL w0 w (d :: e :: L):=by
 have h1:=List.pairwise_cons.1 h.apart
 refine ⟨h.hb,?_,?_,?_⟩
 ·intro x hx
  rcases List.mem_cons.1 hx with rfl | hx
  ·exact hd
  ·rcases List.mem_cons.1 hx with rfl | hx
   ·exact he
   ·exact h.says x (by simp [hx])
 ·intro x hx b hb
  rcases List.mem_cons.1 hx with rfl | hx
  ·exact h.base c (by simp) b (hdf b hb)
  ·rcases List.mem_cons.1 hx with rfl | hx
   ·exact h.base c (by simp) b (hef b hb)
   ·exact h.base x (by simp [hx]) b hb
 ·refine List.pairwise_cons.2 ⟨fun x hx b hb hxb=>?_,List.pairwise_cons.2 ⟨fun x hx b hb hxb=>h1.1 x hx b (hef b hb) hxb,h1.2⟩⟩
  rcases List.mem_cons.1 hx with rfl | hx
  ·exact hap b hb hxb
  ·exact h1.1 x hx b (hdf b hb) hxb
theorem Mem.rowPut {k e size n b c:Nat} (j:Nat) {xs:List Value} (h:Mem w0 w F H) (hk:H[k]?=some (.row (.slice (some ⟨b,0,none⟩) n c) e size n xs)) (u:Value) :
  ∃ w2,w.setCell ⟨b,j,none⟩ u=w2/\Mem w0 w2 F (H.set k (.row (.slice (some ⟨b,0,none⟩) n c) e size n (xs.set j u))):=by
 have h1:w.ownsRow 0 e size (.slice (some ⟨b,0,none⟩) n c) n xs:=h.says hk
 have h2:=h1.stored j u
 exact ⟨_,rfl,h.grow hk h2.2 h2.1 (.inl rfl)⟩
theorem Mem.rowCut {k e size n c:Nat} {A:Option Addr} (m:Nat) {xs:List Value} (h:Mem w0 w F H) (hk:H[k]?=some (.row (.slice A n c) e size n xs)) (hm:m<=n) :
  Mem w0 w F (H.set k (.row (.slice A m c) e size m (xs.take (m * size)))):=by
 have h1:w.ownsRow 0 e size (.slice A n c) n xs:=h.says hk
 refine h.retell hk _ (own_take h1 hm) (fun b hb=>?_)
 cases A with
 | none=>simp [Pc.row,Value.ownBlock] at hb
 | some a=>simpa [Pc.row,Value.ownBlock] using hb
theorem Mem.rowForm {k e size n:Nat} {v:Value} {xs:List Value} (h:Mem w0 w F H) (hk:H[k]?=some (.row v e size n xs)) (hn:0 < n):∃ b c,v=.slice (some ⟨b,0,none⟩) n c/\n<=c/\∀ i u,xs[i]?=some u->w.cell? ⟨b,i,none⟩=some u:=by
 have h1:w.ownsRow 0 e size v n xs:=h.says hk
 rcases h1.2 with ⟨_,h0⟩ | ⟨g,cap,cur,rfl,_,_,hn',_⟩
 ·omega
 ·refine ⟨g,cap,rfl,hn',fun i u hu=>(h1.cellAt i ?_).trans hu⟩
  have:=(List.getElem?_eq_some_iff.1 hu).1
  have h2:=h1.1
  omega
theorem Mem.rowSlice' {k e size n:Nat} {v:Value} {xs:List Value} (h:Mem w0 w F H) (hk:H[k]?=some (.row v e size n xs)):∃ A c,v=.slice A n c/\n<=c:=by
 have h1:w.ownsRow 0 e size v n xs:=h.says hk
 rcases h1.2 with ⟨rfl,rfl⟩ | ⟨g,cap,cur,rfl,_,_,hn',_⟩
 ·exact ⟨none,0,rfl,Nat.le_refl _⟩
 ·exact ⟨_,cap,rfl,hn'⟩
theorem Mem.rowsSwap {k j i:Nat} {vs:List Value} {xss:List (List Int)} {v:Value} {xs:List Int} (h:Mem w0 w F H) (hk:H[k]?=some (.rows vs xss)) (hj:(H.eraseIdx k)[j]?=some (.row v 3 1 xs.length (nums .i64 xs))) (hi:i < vs.length):Mem w0 w F (.rows (vs.set i v) (xss.set i xs) :: (H.eraseIdx k).eraseIdx j):=by
 have h1:=h.front hk
 have hp:(Pc.rows vs xss :: .row v 3 1 xs.length (nums .i64 xs) :: ((H.eraseIdx k).eraseIdx j++F)).Perm (.rows vs xss :: (H.eraseIdx k++F)) :=
  List.Perm.cons _ (List.Perm.append_right F (get_perm' hj)).symm
 have h2:=h1.perm hp
 have hr:Rows3 w 0 vs xss:=h.says hk
 have ho:w.ownsRow 0 3 1 v xs.length (nums .i64 xs):=h2.says (.row v 3 1 xs.length (nums .i64 xs)) (by simp)
 have hdis:=(List.pairwise_cons.1 h2.apart).1 (.row v 3 1 xs.length (nums .i64 xs)) (by simp)
 have hlen:=hr.len
 refine h2.merge ⟨by simpa using hlen,fun q hq=>?_,fun p q hp hq hne=>?_⟩ ?_
 ·rw [List.length_set] at hq
  by_cases hji:i=q
  ·subst hji
   rw [getD_set_self hi,getD_set_self (by omega)]
   exact ho
  ·rw [getD_set_other hji,getD_set_other hji]
   exact hr.row q hq
 ·rw [List.length_set] at hp hq
  by_cases h3:i=p
  ·subst h3
   rw [getD_set_self hi,getD_set_other hne]
   cases hv:v.ownBlock with
   | none=>exact .inl rfl
   | some b=>exact .inr (fun e=>hdis b ⟨q,hq,e.symm⟩ hv)
  ·rw [getD_set_other h3]
   by_cases h4:i=q
   ·subst h4
    rw [getD_set_self hi]
    cases hv:(vs.getD p nilS).ownBlock with
    | none=>exact .inl rfl
    | some b=>exact .inr (fun e=>hdis b ⟨p,hp,hv⟩ e.symm)
   ·rw [getD_set_other h4]
    exact hr.apart p q hp hq hne
 ·rintro b ⟨q,hq,hb⟩
  rw [List.length_set] at hq
  by_cases hji:i=q
  ·subst hji
   rw [getD_set_self hi] at hb
   exact .inr hb
  ·rw [getD_set_other hji] at hb
   exact .inl ⟨q,hq,hb⟩
theorem Mem.rowsPop {k:Nat} {vs:List Value} {xss:List (List Int)} {v:Value} {xs:List Int} (h:Mem w0 w F H) (hk:H[k]?=some (.rows (vs++[v]) (xss++[xs]))):Mem w0 w F (.rows vs xss :: .row v 3 1 xs.length (nums .i64 xs) :: H.eraseIdx k):=by
 have h1:=h.front hk
 have hr:Rows3 w 0 (vs++[v]) (xss++[xs]):=h.says hk
 have hlen:vs.length=xss.length:=by simpa using hr.len
 refine h1.split (d:=.rows vs xss) (e:=.row v 3 1 xs.length (nums .i64 xs)) ⟨hlen,fun i hi=>?_,fun i j hi hj hne=>?_⟩ ?_ ?_ ?_ ?_
 ·have:=hr.row i (by simp;omega)
  rwa [getD_snoc_old hi,getD_snoc_old (by omega)] at this
 ·have:=hr.apart i j (by simp;omega) (by simp;omega) hne
  rwa [getD_snoc_old hi,getD_snoc_old hj] at this
 ·have:=hr.row vs.length (by simp)
  rw [getD_snoc_new,hlen,getD_snoc_new] at this
  exact this
 ·rintro b ⟨i,hi,hb⟩
  exact ⟨i,by simp;omega,by rw [getD_snoc_old hi];exact hb⟩
 ·intro b hb
  exact ⟨vs.length,by simp,by rw [getD_snoc_new];exact hb⟩
 ·rintro b ⟨i,hi,hb⟩ hb2
  have:=hr.apart i vs.length (by simp;omega) (by simp) (by omega)
  rw [getD_snoc_old hi,getD_snoc_new,hb] at this
  rcases this with e | e
  ·cases e
  ·exact e hb2.symm
end
end Go.Proofs.Ytfiiihpdekppiaa
end
section
namespace Go.Proofs.Ytfiiihpdekppiaa
open PShapeReducible (S31 k31)
open Go.RowKit Go.Proofs Go.Proofs.YtfiiihpdekppiaaW.PrintWords
open Go.ChangeMaps (setBlock heap_setBlock_same heap_setBlock_other)
def GoodG (g:List (List Int)):Prop:=g.length<=1000000/\∀ l∈g,l.length<=1000000000
def StructIs (g:List (List Int)) (budget:Int) (x:Sh) (err:Int):Prop :=
  (ValidIs g false/\x=⟨0,0,0,[]⟩/\err=51) ∨
  (ValidIs g true/\GoodG g /\
    ((RedIs g true/\BuildIs g (rangeI g.length) x/\err=0) ∨
     (RedIs g false/\∃ r k t,OrderIs g r/\splitF k ⟨g,rangeI g.length,0,max budget 0⟩ (setF (-1) r [])=some t /\
       ((t=none/\x=⟨0,0,0,[]⟩/\err=50)∨∃ s,t=some s/\BuildIs s.succ s.node x/\err=0))))
theorem results_two {fn:Func} {p q:Tmp} (h:fn.results=#[.cell p 31,.tmp q]) (tmps:Array Value) (w:World) (g:Nat) (cs:Array Value) (fr:Nat × Nat) (v:Value)
  (hp:tmps.getD p undef=.pointer (some ⟨g,0,none⟩)) (hg:w.heap[g]?=some (.cells cs 31 fr)) (hi:(Try.prog.info? 31).map (·.size)=some cs.size) (hv:tmps.getD q undef=v) :
  (results fn tmps).run Try.prog w=.ok (.tuple #[.agg cs,v]) w:=by
 have hp':tmps[p]?.getD undef=.pointer (some ⟨g,0,none⟩):=by simpa using hp
 have hv':tmps[q]?.getD undef=v:=by simpa using hv
 simp [results,h,hp',hv',asAddr,run_loadVar_row w g 31 31 cs fr _ hg Try.underlying31 rfl hi]
def StructPost (w:World) (x:Sh) (err:Int) (e:Ending) (w':World):Prop:=∃ A c ok,e=.returned (.tuple #[.agg (shc x A c).toArray,.int .i64 err])/\Kd.FK k31 w' ok x (shc x A c)/\(∀ b,ok b->w.heap.size<=b)/\Below w.heap.size w w'
set_option maxRecDepth 100000 in
set_option maxHeartbeats 4000000 in
theorem structure_bad (w:World) (A:Option Addr) (c:Nat) (g:List (List Int)) (budget:Int) (hC:kG.C w A g.length g) (hc:g.length<=c) (h:ValidIs g false) :
  Calls Try.prog 16 #[.agg #[.slice A g.length c],.int .i64 budget] w (StructPost w ⟨0,0,0,[]⟩ 51):=by
 obtain ⟨kv,hv⟩:=h
 obtain ⟨b2,w1,z1,a1,M1⟩:=(Mem.start w).alloc (.cells #[.slice A g.length c] 27)
 obtain ⟨b4,w2,z2,a2,M2⟩:=M1.alloc (.cells shz.toArray 31)
 have k1:=M2.cell (k:=0) (j:=0) rfl rfl
 have HV:=ak_ hv
 have HC:=ak_ (Kd.C_below hC M2.hb)
 have M2:=ak_ M2
 clear M1 hv hC
 go_enter Try.func16,Try.ntmps16
 go_wp2_with (go_at_call 36;refine (PShapeReducible.flow_Valid.calls kv A c g false w2 HC.out hc HV.out).mono ?_;rintro e w3 ⟨rfl,hb3⟩;obtain ⟨y1,y2,y3,y4,ys,yc,yf,M4⟩:=(M2.out.below hb3).fill4 (k:=1) rfl (.int .i64 0) (.int .i64 0) (.int .i64 0) (.slice none 0 0);have M4:=ak_ M4;clear hb3)
 refine bodyPost_ret (results_two rfl _ _ b4 shz.toArray (0,0) (.int .i64 51) rfl (M4.out.blk (k:=1) rfl) (by kernel_rfl) rfl) rfl ?_
 exact ⟨none,0,fun _=>False,rfl,fk_leaf _ _ _ _,fun _ h=>h.elim,M4.out.hb⟩
theorem rangeI_succ (i:Nat):rangeI (i+1)=rangeI i++[(i:Int)]:=by simp [rangeI,List.range_succ]
theorem rangeI_length (i:Nat):(rangeI i).length=i:=by simp [rangeI]
set_option maxRecDepth 100000 in
set_option maxHeartbeats 4000000 in
theorem structure_any (w:World) (A:Option Addr) (c:Nat) (g:List (List Int)) (budget:Int) (x:Sh) (err:Int) (hC:kG.C w A g.length g) (hc:g.length<=c) (h:StructIs g budget x err) :
  Calls Try.prog 16 #[.agg #[.slice A g.length c],.int .i64 budget] w (StructPost w x err):=by
 rcases h with ⟨h1,rfl,rfl⟩ | ⟨⟨kv,hv⟩,⟨hg6,hrows⟩,h⟩
 ·exact structure_bad w A c g budget hC hc h1
 obtain ⟨b2,w1,z1,a1,M1⟩:=(Mem.start w).alloc (.cells #[.slice A g.length c] 27)
 obtain ⟨b4,w2,z2,a2,M2⟩:=M1.alloc (.cells shz.toArray 31)
 have k1:=M2.cell (k:=0) (j:=0) rfl rfl
 have HV:=ak_ hv
 have HC:=ak_ hC
 have HR:=ak_ hrows
 have M2:=ak_ M2
 have H:=ak_ h
 obtain ⟨mb,hmb⟩:∃ mb,mb=max budget 0:=⟨_,rfl⟩
 have HMB:=ak_ hmb
 clear M1 hv hC h hrows hmb
 go_enter Try.func16,Try.ntmps16
 go_wp2_with (go_at_call 36;refine (PShapeReducible.flow_Valid.calls kv A c g true w2 (Kd.C_below HC.out M2.out.hb) hc HV.out).mono ?_;rintro e w3 ⟨rfl,hb3⟩;obtain ⟨bs,w4,z4,a4,M4⟩:=(M2.out.below hb3).alloc (.cells #[.slice none 0 0,.slice none 0 0,.int .i64 0,.int .i64 (max budget 0)] 65);have k2:=M4.cell (k:=0) (j:=0) rfl rfl;have M4:=ak_ (show Mem w w4 [] [.blk b2 (.cells #[.slice A g.length c] 27 (0,0)),.blk b4 (.cells shz.toArray 31 (0,0)),.blk bs (.cells #[.slice none 0 0,(.slice none 0 0),.int .i64 0,.int .i64 (max budget 0)] 65 (0,0)),.mat (.slice none 0 0) [] (g.take 0),.row (.slice none 0 0) 3 1 0 (nums .i64 (rangeI 0))] from (M4.nilmat).nilrow 3 1);clear hb3)
 clear k1 k2 z1 z2 z4 a1 a2 a4 M2
 go_loopw [20] (fun t wr=>∃ (i:Nat) (As:Option Addr) (cs:Nat) (nv:Value) (vs:List Value),t=.int .i64 i/\i<=g.length/\Aside0 (Mem w wr [] [.blk b2 (.cells #[.slice A g.length c] 27 (0,0)),.blk b4 (.cells shz.toArray 31 (0,0)),.blk bs (.cells #[.slice As i cs,nv,.int .i64 0,.int .i64 (max budget 0)] 65 (0,0)),.mat (.slice As i cs) vs (g.take i),.row nv 3 1 i (nums .i64 (rangeI i))])) (fun t _=>g.length - (intOf t).toNat)
 case atStart=>exact ⟨0,none,0,.slice none 0 0,[],rfl,Nat.zero_le _,M4⟩
 case round =>
  obtain ⟨i,As,cs,nv,vs,rfl,hi,hM⟩:=hrel
  by_cases hlt:i < g.length
  ·obtain ⟨adg,A0,c0,rfl,g1,g2,g3⟩:=C_row HC.out i hlt
   obtain ⟨l,hl⟩:∃ l,l=g.getD i []:=⟨_,rfl⟩
   rw [<-hl] at g1 g2 g3
   have hll:l.length<=1000000000:=HR.out l (by rw [hl,List.getD_eq_getElem?_getD,List.getElem?_eq_getElem hlt];exact List.getElem_mem hlt)
   have htk:g.take (i+1)=g.take i++[l]:=by rw [List.take_succ_eq_append_getElem hlt,hl];simp [List.getD_eq_getElem?_getD,hlt]
   have hlen:(g.take i).length=i:=by simp;omega
   have k1:=pw_cell_below hM.out.hb g1
   obtain ⟨w5,z5,M5⟩:=hM.out.drew
   have k2:=M5.cell (k:=2) (j:=0) rfl rfl
   have HC5:=ak_ (Kd.C_below g3 M5.hb)
   have M5:=ak_ M5
   have HTK:=ak_ htk
   have HLN:=ak_ hlen
   have hlt':(i:Int) < g.length:=by omega
   clear hl g1 g3 htk hlen
   go_wp2_with (first | (rw [z5]) | (refine wp_region_txt (fun _=>True) [1006] (by kernel_rfl) (by kernel_rfl) ?_))
   iterate 6 ((first | (with_reducible refine wpT_nil ?_) | (refine wpT_W (v:=?_) trivial (by decide) (wn_ rfl) (fun _ hS_=>?_) ?_;rotate_left;(focus ((try dsimp only at hS_);go_simp;rfl))) | (refine wpT_R (v:=?_) trivial (by decide) (wn_ rfl) ?_ ?_;rotate_left;(focus (go_simp;rfl))) | (refine wpT_A (v:=?_) (ob:=?_) trivial (by decide) (wn_ rfl) ?_ ?_ ?_;rotate_left 2;(focus (go_simp;first | (constructor <;> rfl) | rfl));(focus (exact trivial))));(try simp only [Act.put,sA_,sB_,sC_]))
   refine wpT_LA trivial (by decide) (wn_ rfl) (fun K_ hK_=>?_)
   go_wp2_with (go_at_call 37;refine (M5.out.clone HC5.out hll).mono ?_;rintro e w6 ⟨A6,c6,rfl,M6,hx6⟩)
   refine hK_ _ _ hx6 trivial ?_
   clear hK_
   have M6:=ak_ M6
   clear hx6
   ((first | (with_reducible refine wpT_nil ?_) | (refine wpT_W (v:=?_) trivial (by decide) (wn_ rfl) (fun _ hS_=>?_) ?_;rotate_left;(focus ((try dsimp only at hS_);go_simp;rfl))) | (refine wpT_R (v:=?_) trivial (by decide) (wn_ rfl) ?_ ?_;rotate_left;(focus (go_simp;rfl))) | (refine wpT_A (v:=?_) (ob:=?_) trivial (by decide) (wn_ rfl) ?_ ?_ ?_;rotate_left 2;(focus (go_simp;first | (constructor <;> rfl) | rfl));(focus (exact trivial))));(try simp only [Act.put,sA_,sB_,sC_]))
   refine wpT_L trivial (by decide) (wn_ rfl) (fun K_ hK_=>?_)
   refine step_mem_mat (ops:=#[]) 3 4 rfl (.tmp 29) (.tmp 32) rfl Try.underlying25 info23 _ vs (g.take i) (.slice A6 l.length c6) l rfl rfl rfl M6.out rfl rfl (by have:=HLN.out;omega) ?_
   intro A7 c7 w7 M7
   rw [HLN.out] at M7 ⊢
   refine hK_ _ _ trivial ?_
   clear hK_
   have d1:=M7.cell (k:=3) (j:=0) rfl rfl
   have d2:=M7.free (k:=3) (j:=0) rfl
   obtain ⟨w8,s8,M8⟩:=M7.set (k:=3) 0 rfl (.slice A7 (i+1) c7)
   have M8:=ak_ M8
   clear M7
   iterate 2 ((first | (with_reducible refine wpT_nil ?_) | (refine wpT_W (v:=?_) trivial (by decide) (wn_ rfl) (fun _ hS_=>?_) ?_;rotate_left;(focus ((try dsimp only at hS_);go_simp;rfl))) | (refine wpT_R (v:=?_) trivial (by decide) (wn_ rfl) ?_ ?_;rotate_left;(focus (go_simp;rfl))) | (refine wpT_A (v:=?_) (ob:=?_) trivial (by decide) (wn_ rfl) ?_ ?_ ?_;rotate_left 2;(focus (go_simp;first | (constructor <;> rfl) | rfl));(focus (exact trivial))));(try simp only [Act.put,sA_,sB_,sC_]))
   refine wpT_L trivial (by decide) (wn_ rfl) (fun K_ hK_=>?_)
   go_simp
   refine hK_ _ _ trivial ?_
   clear hK_
   refine wpT_nil ?_
   clear d1 d2 s8 k1 k2 z5
   obtain ⟨An,cn,rfl⟩:=M8.out.rowSlice (k:=4) rfl
   have k3:=M8.out.cell (k:=3) (j:=1) rfl rfl
   go_wp2_with (first
    | ((with_reducible refine gate_dst (N:=43) rfl ?_);refine mem_append 4 (.tmp 40) (.tmp 42) 23 3 (.int .i64 0) 1 8 rfl rfl Try.underlying23 PShapeReducible.info3 rfl (by decide) (by decide) _ i (nums .i64 (rangeI i)) [.int .i64 (i:Int)] rfl rfl rfl (by simp [Value.oneCell']) M8.out rfl (by omega) ?_;intro A9 c9 w9 M9;have e1:=M9.cell (k:=3) (j:=1) rfl rfl;have e2:=M9.free (k:=3) (j:=1) rfl;obtain ⟨w10,s10,M10⟩:=M9.set (k:=3) 1 rfl (.slice A9 (i+1) c9);have M10:=ak_ M10;clear M9))
   go_roundw
   case rel =>
    refine ⟨i+1,A7,c7,.slice A9 (i+1) c9,vs++[.slice A6 l.length c6],by go_num,by omega,⟨?_⟩⟩
    have:=M10.out.order [1,2,3,0,4] rfl
    rw [HTK.out,rangeI_succ,nums_append]
    exact this
   case measure=>simp [intOf];omega
  ·obtain rfl:g.length=i:=by omega
   rw [List.take_length] at hM
   have k1:=hM.out.cell (k:=0) (j:=0) rfl rfl
   obtain ⟨An,cn,rfl⟩:=hM.out.rowSlice (k:=4) rfl
   clear M4
   rcases H.out with ⟨hred,hbld,rfl⟩ | ⟨hred,r,k,t,hord,hspl,ht⟩
   ·have HRED:=ak_ hred
    have HBLD:=ak_ hbld
    clear hred hbld
    go_wp2_with (first
     | (go_at_call 38;refine (reducible_any wr A c g true (Kd.C_below HC.out hM.out.hb) hc HRED.out).mono ?_;rintro e w5 ⟨rfl,hb5⟩;obtain ⟨w6,z6,M6⟩:=(hM.out.below hb5).drew;have q0:=M6.cell (k:=2) (j:=0) rfl rfl;have q1:=M6.cell (k:=2) (j:=1) rfl rfl;have M6:=ak_ M6;clear hb5)
     | (rw [z6]) | (refine wp_region_txt (fun _=>True) [] (by kernel_rfl) (by kernel_rfl) ?_) | (with_reducible refine wpT_nil ?_) | (refine wpT_W (v:=?_) trivial (by decide) (wn_ rfl) (fun _ hS_=>?_) ?_;rotate_left;(focus ((try dsimp only at hS_);go_simp;rfl));(simp only [Act.put,sA_,sB_,sC_])) | (refine wpT_R (v:=?_) trivial (by decide) (wn_ rfl) ?_ ?_;rotate_left;(focus (go_simp;rfl));(simp only [Act.put,sA_,sB_,sC_])) | (refine wpT_A (v:=?_) (ob:=?_) trivial (by decide) (wn_ rfl) ?_ ?_ ?_;rotate_left 2;(focus (go_simp;first | (constructor <;> rfl) | rfl));(focus (exact trivial));(simp only [Act.put,sA_,sB_,sC_])))
    obtain ⟨As9,cs9,e9,hcs9,hG9⟩:=M6.out.matC (k:=3) rfl
    obtain ⟨An9,cn9,f9,hcn9,hN9⟩:=M6.out.rowC (k:=4) (xs:=rangeI g.length) rfl (rangeI_length _).symm
    have hb9:=build_any w6 As9 An9 cs9 cn9 g (rangeI g.length) x hG9 hcs9 hN9 HBLD.out
    rw [rangeI_length] at hb9 f9
    rw [<-e9,<-f9] at hb9
    have BLD:=ak_ hb9
    clear e9 f9 hcs9 hG9 hcn9 hN9 hb9 q0 q1
    refine wpT_L trivial (by decide) (wn_ rfl) (fun K_ hK_=>?_)
    go_wp2_with (go_at_call 42;refine BLD.out.mono ?_;rintro e w17 ⟨A2,c2,ok2,rfl,hfk,hok,hb17⟩;obtain ⟨y1,y2,y3,y4,ys,yc,yf,M18⟩:=(M6.out.newfk hb17 hfk hok).fill4 (k:=1) rfl (.int .i64 x.f0) (.int .i64 x.f1) (.int .i64 x.f2) (.slice A2 x.f3.length c2);have M18:=ak_ M18;clear hfk hok hb17)
    refine hK_ _ _ trivial ?_
    clear hK_
    refine wpT_L trivial (by decide) (wn_ rfl) (fun K_ hK_=>?_)
    go_simp
    refine hK_ _ _ trivial ?_
    clear hK_
    iterate 2 ((first | (with_reducible refine wpT_nil ?_) | (refine wpT_W (v:=?_) trivial (by decide) (wn_ rfl) (fun _ hS_=>?_) ?_;rotate_left;(focus ((try dsimp only at hS_);go_simp;rfl))) | (refine wpT_R (v:=?_) trivial (by decide) (wn_ rfl) ?_ ?_;rotate_left;(focus (go_simp;rfl))) | (refine wpT_A (v:=?_) (ob:=?_) trivial (by decide) (wn_ rfl) ?_ ?_ ?_;rotate_left 2;(focus (go_simp;first | (constructor <;> rfl) | rfl));(focus (exact trivial))));(try simp only [Act.put,sA_,sB_,sC_]))
    go_wp2_with fail
    refine bodyPost_ret (results_two rfl _ _ b4 (shc x A2 c2).toArray (0,0) (.int .i64 0) rfl (M18.out.blk (k:=1) rfl) (by kernel_rfl) rfl) rfl ?_
    exact ⟨A2,c2,_,rfl,M18.out.fk (k:=5) rfl,M18.out.base (k:=5) rfl,M18.out.hb⟩
   ·obtain ⟨hg0,_,⟨kv2,hv2⟩,⟨ko,hoo⟩,kr,hrv⟩:=hord
    have HRED:=ak_ hred
    have HOO:=ak_ hoo
    have HRV:=ak_ hrv
    have HV2:=ak_ hv2
    have HSP:=ak_ hspl
    have hMr:Mem w wr [] [.blk b2 (.cells #[.slice A g.length c] 27 (0,0)),.blk b4 (.cells shz.toArray 31 (0,0)),.blk bs (.cells #[.slice As g.length cs,.slice An g.length cn,.int .i64 0,.int .i64 (max budget 0)] 65 (0,0)),.mat (.slice As g.length cs) vs g,.row (.slice An g.length cn) 3 1 (rangeI g.length).length (nums .i64 (rangeI g.length))]:=by rw [rangeI_length];exact hM.out
    have HMR:=ak_ hMr
    clear hred hoo hrv hv2 hspl hMr
    rcases ht with ⟨rfl,rfl,rfl⟩ | ⟨sp,rfl,hbld,rfl⟩
    ·go_wp2_with (first
      | (go_at_call 38;refine (reducible_any wr A c g false (Kd.C_below HC.out HMR.out.hb) hc HRED.out).mono ?_;rintro e w5 ⟨rfl,hb5⟩;have M6:=HMR.out.below hb5;have k1b:=M6.cell (k:=0) (j:=0) rfl rfl;have M6:=ak_ M6;clear hb5)
      | (go_at_call 41;refine (order_any w5 A c g ko kv2 kr r (Kd.C_below HC.out M6.out.hb) hc hg6 hg0 HV2.out HOO.out HRV.out).mono ?_;rintro e w6 ⟨v7,rfl,hr11,hb11⟩;have ho11:=own_R hr11;obtain ⟨A7,c7,hv7,_,hC7⟩:=own_C ho11;subst hv7;have M7:=ak_ (M6.out.newrow hb11 ho11 (fun k hk=>own_base ho11 k hk));have HC7:=ak_ hC7;clear hr11 hb11 ho11 hC7)
      | (go_at_call 40;refine (M7.out.set40 (c:=c7) (-1) HC7.out).mono ?_;rintro e w7 ⟨bset,rfl,M8,hb8⟩;have M8:=ak_ M8;clear hb8)
      | (go_at_call 39;refine (split_any w bs k _ ⟨g,rangeI g.length,0,max budget 0⟩ _ none w7 As cs bset vs (.slice An g.length cn) (M8.out.focus [2,3,4,6] rfl) HSP.out).mono ?_;rintro e w8 ⟨rfl,M9⟩;obtain ⟨y1,y2,y3,y4,ys,yc,yf,M10⟩:=(M9.wide).fill4 (k:=1) rfl (.int .i64 0) (.int .i64 0) (.int .i64 0) (.slice none 0 0);have M10:=ak_ M10;clear M9))
     refine bodyPost_ret (results_two rfl _ _ b4 shz.toArray (0,0) (.int .i64 50) rfl (M10.out.blk (k:=1) rfl) (by kernel_rfl) rfl) rfl ?_
     exact ⟨none,0,fun _=>False,rfl,fk_leaf _ _ _ _,fun _ h=>h.elim,M10.out.hb⟩
    ·have HBLD:=ak_ hbld
     clear hbld
     go_wp2_with (first
      | (go_at_call 38;refine (reducible_any wr A c g false (Kd.C_below HC.out HMR.out.hb) hc HRED.out).mono ?_;rintro e w5 ⟨rfl,hb5⟩;have M6:=HMR.out.below hb5;have k1b:=M6.cell (k:=0) (j:=0) rfl rfl;have M6:=ak_ M6;clear hb5)
      | (go_at_call 41;refine (order_any w5 A c g ko kv2 kr r (Kd.C_below HC.out M6.out.hb) hc hg6 hg0 HV2.out HOO.out HRV.out).mono ?_;rintro e w6 ⟨v7,rfl,hr11,hb11⟩;have ho11:=own_R hr11;obtain ⟨A7,c7,hv7,_,hC7⟩:=own_C ho11;subst hv7;have M7:=ak_ (M6.out.newrow hb11 ho11 (fun k hk=>own_base ho11 k hk));have HC7:=ak_ hC7;clear hr11 hb11 ho11 hC7)
      | (go_at_call 40;refine (M7.out.set40 (c:=c7) (-1) HC7.out).mono ?_;rintro e w7 ⟨bset,rfl,M8,hb8⟩;have M8:=ak_ M8;clear hb8)
      | (go_at_call 39;refine (split_any w bs k _ ⟨g,rangeI g.length,0,max budget 0⟩ _ (some sp) w7 As cs bset vs (.slice An g.length cn) (M8.out.focus [2,3,4,6] rfl) HSP.out).mono ?_;rintro e w8 ⟨As9,cs9,vs9,nv9,rfl,M9⟩;obtain ⟨w16,z16,M16⟩:=(M9.wide).drew;have q0:=M16.cell (k:=0) (j:=0) rfl rfl;have q1:=M16.cell (k:=0) (j:=1) rfl rfl;have M16:=ak_ M16;clear M9)
      | (rw [z16]) | (refine wp_region_txt (fun _=>True) [] (by kernel_rfl) (by kernel_rfl) ?_) | (with_reducible refine wpT_nil ?_) | (refine wpT_W (v:=?_) trivial (by decide) (wn_ rfl) (fun _ hS_=>?_) ?_;rotate_left;(focus ((try dsimp only at hS_);go_simp;rfl));(simp only [Act.put,sA_,sB_,sC_])) | (refine wpT_R (v:=?_) trivial (by decide) (wn_ rfl) ?_ ?_;rotate_left;(focus (go_simp;rfl));(simp only [Act.put,sA_,sB_,sC_])) | (refine wpT_A (v:=?_) (ob:=?_) trivial (by decide) (wn_ rfl) ?_ ?_ ?_;rotate_left 2;(focus (go_simp;first | (constructor <;> rfl) | rfl));(focus (exact trivial));(simp only [Act.put,sA_,sB_,sC_])))
     obtain ⟨As10,cs10,e9,hcs9,hG9⟩:=M16.out.matC (k:=1) rfl
     obtain ⟨An9,cn9,f9,hcn9,hN9⟩:=M16.out.rowC (k:=2) (xs:=sp.node) rfl rfl
     have hb9:=build_any w16 As10 An9 cs10 cn9 sp.succ sp.node x hG9 hcs9 hN9 HBLD.out
     rw [<-e9,<-f9] at hb9
     have BLD:=ak_ hb9
     clear e9 f9 hcs9 hG9 hcn9 hN9 hb9 q0 q1
     refine wpT_L trivial (by decide) (wn_ rfl) (fun K_ hK_=>?_)
     go_wp2_with (go_at_call 42;refine BLD.out.mono ?_;rintro e w17 ⟨A2,c2,ok2,rfl,hfk,hok,hb17⟩;obtain ⟨y1,y2,y3,y4,ys,yc,yf,M18⟩:=(M16.out.newfk hb17 hfk hok).fill4 (k:=4) rfl (.int .i64 x.f0) (.int .i64 x.f1) (.int .i64 x.f2) (.slice A2 x.f3.length c2);have M18:=ak_ M18;clear hfk hok hb17)
     refine hK_ _ _ trivial ?_
     clear hK_
     refine wpT_L trivial (by decide) (wn_ rfl) (fun K_ hK_=>?_)
     go_simp
     refine hK_ _ _ trivial ?_
     clear hK_
     iterate 2 ((first | (with_reducible refine wpT_nil ?_) | (refine wpT_W (v:=?_) trivial (by decide) (wn_ rfl) (fun _ hS_=>?_) ?_;rotate_left;(focus ((try dsimp only at hS_);go_simp;rfl))) | (refine wpT_R (v:=?_) trivial (by decide) (wn_ rfl) ?_ ?_;rotate_left;(focus (go_simp;rfl))) | (refine wpT_A (v:=?_) (ob:=?_) trivial (by decide) (wn_ rfl) ?_ ?_ ?_;rotate_left 2;(focus (go_simp;first | (constructor <;> rfl) | rfl));(focus (exact trivial))));(try simp only [Act.put,sA_,sB_,sC_]))
     go_wp2_with fail
     refine bodyPost_ret (results_two rfl _ _ b4 (shc x A2 c2).toArray (0,0) (.int .i64 0) rfl (M18.out.blk (k:=4) rfl) (by kernel_rfl) rfl) rfl ?_
     exact ⟨A2,c2,_,rfl,M18.out.fk (k:=6) rfl,M18.out.base (k:=6) rfl,M18.out.hb⟩
end Go.Proofs.Ytfiiihpdekppiaa
end
section
namespace Go.Proofs.Ytfiiihpdekppiaa
open Go.RowKit Go.Proofs Go.Proofs.YtfiiihpdekppiaaW.PrintWords
open Go.ChangeMaps (setBlock heap_setBlock_same heap_setBlock_other)
def Stp.cells (p:Stp):List Value:=[.int .i64 p.kind,.int .i64 p.node]
def Frm.cells (f:Frm):List Value:=[.int .i64 f.label,.int .i64 f.start,.bool f.loop]
theorem info77:(Try.prog.info? 77).map (fun i=>(i.zero,i.size,i.bytes))=some (some (.agg #[.int .i64 0,.int .i64 0,.slice none 0 0]),3,40):=by kernel_rfl
theorem info141:(Try.prog.info? 141).map (fun i=>(i.zero,i.size,i.bytes))=some (some (.agg #[.int .i64 0,.int .i64 0,.bool false,.slice none 0 0]),4,48):=by kernel_rfl
structure Cp where
 vS:Value
 vF:Value
 vU:Value
 ts:List Value
 bs:List Value
def Cs.own (c:Cs) (bc:Nat) (gv:Value) (p:Cp):List Pc :=
  [.blk bc (.cells #[gv,p.vS,p.vF,p.vU,.bool c.bad] 124 (0,0)),.row p.vS 77 3 c.steps.length (recs (c.steps.map Stp.cells) p.ts),.rows p.ts (c.steps.map Stp.tos),
   .row p.vF 141 4 c.frames.length (recs (c.frames.map Frm.cells) p.bs),.rows p.bs (c.frames.map Frm.brk),.row p.vU 3 1 c.used.length (nums .i64 c.used)]
set_option maxRecDepth 100000 in
set_option maxHeartbeats 4000000 in
theorem emit_any (w0 w:World) (F:List Pc) (bc:Nat) (gv:Value) (c:Cs) (p:Cp) (a b:Int) (vt:Value) (xs:List Int)
  (M:Mem w0 w F (c.own bc gv p++[.row vt 3 1 xs.length (nums .i64 xs)])) (hl:c.steps.length < 1000000000) :
  Calls Try.prog 69 #[.pointer (some ⟨bc,0,none⟩),.agg #[.int .i64 a,.int .i64 b,vt]] w fun e w'=>e=.returned (.int .i64 c.steps.length)/\∃ A cc,Mem w0 w' F ((c.emit ⟨a,b,xs⟩).own bc gv { p with vS:=.slice A (c.steps.length+1) cc,ts:=p.ts++[vt] }):=by
 obtain ⟨vS,vF,vU,ts,bs⟩:=p
 obtain ⟨At,ct,rfl,hct⟩:=M.rowSlice' (k:=6) rfl
 obtain ⟨AS,cS,e,hcS⟩:=M.rowSlice' (k:=1) rfl
 dsimp only at e
 subst e
 have hts:ts.length=c.steps.length:=by have:=(M.rows (k:=2) rfl).len;simpa using this
 obtain ⟨b3,w1,z1,a1,M1⟩:=M.alloc (.cells #[.int .i64 a,.int .i64 b,.slice At xs.length ct] 77)
 obtain ⟨w2,z2,M2⟩:=M1.drew
 have e0:=M2.cell (k:=7) (j:=0) rfl rfl
 have e1:=M2.cell (k:=7) (j:=1) rfl rfl
 have e2:=M2.cell (k:=7) (j:=2) rfl rfl
 have k1:=M2.cell (k:=0) (j:=1) rfl rfl
 have MM:=ak_ M2
 have HW:IntKind.i64.wrap (((c.steps.length+1:Nat):Int) - 1)=(c.steps.length:Int):=by rw [IntWalk.i64_in _ (by omega)];omega
 have HTS:=ak_ hts
 clear M M1 M2 hct hts hcS
 go_enter Try.func69,Try.ntmps69
 go_wp2_with (first | (rw [z2]) | (refine wp_region_txt (fun _=>True) [] (by kernel_rfl) (by kernel_rfl) ?_))
 iterate 7 ((first | (with_reducible refine wpT_nil ?_) | (refine wpT_W (v:=?_) trivial (by decide) (wn_ rfl) (fun _ hS_=>?_) ?_;rotate_left;(focus ((try dsimp only at hS_);go_simp;rfl))) | (refine wpT_R (v:=?_) trivial (by decide) (wn_ rfl) ?_ ?_;rotate_left;(focus (go_simp;rfl))) | (refine wpT_A (v:=?_) (ob:=?_) trivial (by decide) (wn_ rfl) ?_ ?_ ?_;rotate_left 2;(focus (go_simp;first | (constructor <;> rfl) | rfl));(focus (exact trivial))));(try simp only [Act.put,sA_,sB_,sC_]))
 refine wpT_L trivial (by decide) (wn_ rfl) (fun K_ hK_=>?_)
 refine step_mem_app (ops:=#[]) 1 rfl (.tmp 9) (.tmp 11) 73 77 (.agg #[.int .i64 0,.int .i64 0,.slice none 0 0]) 3 40 rfl Try.underlying73 info77 rfl (by decide) (by decide) _ c.steps.length (recs (c.steps.map Stp.cells) ts) [.int .i64 a,.int .i64 b,.slice At xs.length ct] rfl rfl rfl (by simp [Value.oneCell']) MM.out rfl (by omega) ?_
 intro A4 c4 w4 M4
 refine hK_ _ _ trivial ?_
 clear hK_
 have d1:=M4.cell (k:=0) (j:=1) rfl rfl
 have d2:=M4.free (k:=0) (j:=1) rfl
 obtain ⟨w5,s5,M5⟩:=M4.set (k:=0) 1 rfl (.slice A4 (c.steps.length+1) c4)
 have d3:=M5.cell (k:=0) (j:=1) rfl rfl
 have M5:=ak_ M5
 clear M4
 iterate 2 ((first | (with_reducible refine wpT_nil ?_) | (refine wpT_W (v:=?_) trivial (by decide) (wn_ rfl) (fun _ hS_=>?_) ?_;rotate_left;(focus ((try dsimp only at hS_);go_simp;rfl))) | (refine wpT_R (v:=?_) trivial (by decide) (wn_ rfl) ?_ ?_;rotate_left;(focus (go_simp;rfl))) | (refine wpT_A (v:=?_) (ob:=?_) trivial (by decide) (wn_ rfl) ?_ ?_ ?_;rotate_left 2;(focus (go_simp;first | (constructor <;> rfl) | rfl));(focus (exact trivial))));(try simp only [Act.put,sA_,sB_,sC_]))
 refine wpT_L trivial (by decide) (wn_ rfl) (fun K_ hK_=>?_)
 go_simp
 refine hK_ _ _ trivial ?_
 clear hK_
 refine wpT_nil ?_
 clear d1 d2 s5 k1 z2
 go_wp2
 go_ret
 refine ⟨by simp,A4,c4,?_⟩
 have M6:=((M5.out.lose (k:=7) rfl).join (k:=2) (j:=5) rfl rfl).order [1,2,0] rfl
 unfold Cs.own Cs.emit
 simp only [List.map_append,List.map_cons,List.map_nil,List.length_append,List.length_singleton]
 rw [recs_snoc _ _ (by rw [List.length_map];exact HTS.out.symm)]
 exact M6
set_option maxRecDepth 100000 in
set_option maxHeartbeats 4000000 in
theorem enclosing_any (w:World) (bc:Nat) (vF:Value) (fs:List Frm) (bs:List Value) (label:Int) (loop:Bool) (hk:w.cell? ⟨bc,2,none⟩=some vF)
  (hl:fs.length < 1000000000) (hlen:fs.length=bs.length) (ho:w.ownsRow 0 141 4 vF fs.length (recs (fs.map Frm.cells) bs)) :
  Calls Try.prog 90 #[.pointer (some ⟨bc,0,none⟩),.int .i64 label,.bool loop] w fun e w'=>e=.returned (.int .i64 (enclF (fun f=>decide (f.label=label) && (!loop || f.loop)) fs fs.length))/\Drawn0 w w':=by
 obtain ⟨A,cF,rfl,hF⟩:∃ A c,vF=.slice A fs.length c/\∀ i j u,i < fs.length->(recs (fs.map Frm.cells) bs)[i * 4+j]?=some u->∃ b,A=some ⟨b,0,none⟩/\w.cell? ⟨b,i * 4+j,none⟩=some u:=by
  rcases ho.2 with ⟨rfl,h0⟩ | ⟨g,cap,cur,rfl,hb,hh,hn',r⟩
  ·exact ⟨none,0,by rw [h0],fun i j u hi _=>by omega⟩
  ·refine ⟨_,cap,rfl,fun i j u hi hu=>⟨g,rfl,(ho.cellAt _ ?_).trans hu⟩⟩
   have:=(List.getElem?_eq_some_iff.1 hu).1
   have h2:=ho.1
   omega
 have HF:=ak_ hF
 have HW:IntKind.i64.wrap ((fs.length:Int) - 1)=(fs.length:Int) - 1:=IntWalk.i64_in _ (by omega)
 have HLEN:=ak_ hlen
 clear hF ho hlen
 obtain ⟨T,hT⟩:∃ T:Frm->Bool,T=fun f=>decide (f.label=label) && (!loop || f.loop):=⟨_,rfl⟩
 rw [<-hT]
 have HT:=ak_ hT
 clear hT
 go_enter Try.func90,Try.ntmps90
 go_wp2
 go_loopw [7] (fun t wr=>∃ k:Nat,t=.int .i64 ((k:Int) - 1)/\k<=fs.length/\Aside0 (enclF T fs k=enclF T fs fs.length)/\wr=w) (fun t _=>(intOf t+1).toNat)
 case atStart=>exact ⟨fs.length,by simp,Nat.le_refl _,⟨rfl⟩,rfl⟩
 case round =>
  obtain ⟨k,rfl,hkl,hE,rfl⟩:=hrel
  cases k with
  | zero =>
   have h0:¬ (0:Int)<=((0:Nat):Int) - 1:=by omega
   go_wp2
   go_ret
   exact ⟨by simp [<-hE.out,enclF],Drawn0.refl _⟩
  | succ k =>
   obtain ⟨f,hf⟩:∃ f,fs[k]?=some f:=⟨fs[k],List.getElem?_eq_getElem (by omega)⟩
   have hrec:∀ j,j<=3->(recs (fs.map Frm.cells) bs)[k * 4+j]?=(f.cells++[bs.getD k nilS])[j]?:=fun j hj=>by
    rw [recs_get (m:=3) (by simpa using HLEN.out) (by simp [Frm.cells]) (by simp;omega) hj]
    simp [List.getD_eq_getElem?_getD,hf]
   obtain ⟨b,rfl,c0⟩:=HF.out k 0 _ (by omega) (by rw [hrec 0 (by omega)];rfl)
   obtain ⟨b',e1,c2⟩:=HF.out k 2 _ (by omega) (by rw [hrec 2 (by omega)];rfl)
   cases e1
   have hE':(if T f=true then (k:Int) else enclF T fs k)=enclF T fs fs.length:=by
    rw [<-hE.out];simp [enclF,hf]
   have hkk:((k+1:Nat):Int) - 1=(k:Int):=by omega
   rw [hkk]
   have h0:(0:Int)<=(k:Int):=by omega
   have h1:(k:Int) < (fs.length:Int):=by omega
   have HW2:IntKind.i64.wrap ((k:Int) - 1)=(k:Int) - 1:=IntWalk.i64_in _ (by omega)
   have HE:=ak_ hE'
   rw [Nat.add_zero] at c0
   clear hrec hE hE' hkk HF hf
   obtain ⟨fl,hfl⟩:∃ fl,fl=f.loop:=⟨_,rfl⟩
   rw [<-hfl] at c2
   have hTf:T f=(decide (f.label=label) && (!loop || fl)):=by rw [HT.out,hfl]
   clear hfl
   by_cases hlab:f.label=label
   ·rw [hlab] at c0
    have hTf:T f=(!loop || fl):=by rw [hTf,hlab];simp
    cases loop with
    | false =>
     have HR:=ak_ (show (k:Int)=enclF T fs fs.length by rw [<-HE.out,hTf];rfl)
     clear hTf hlab
     go_wp2
     go_ret
     exact ⟨by simp [HR.out],Drawn0.refl _⟩
    | true =>
     cases fl with
     | true =>
      have HR:=ak_ (show (k:Int)=enclF T fs fs.length by rw [<-HE.out,hTf];rfl)
      clear hTf hlab
      go_wp2
      go_ret
      exact ⟨by simp [HR.out],Drawn0.refl _⟩
     | false =>
      have HR:=ak_ (show enclF T fs k=enclF T fs fs.length by rw [<-HE.out,hTf];rfl)
      clear hTf hlab
      go_wp2
      go_roundw
      case rel=>exact ⟨k,by simp,by omega,HR,trivial⟩
      case measure=>simp [intOf]
   ·have HR:=ak_ (show enclF T fs k=enclF T fs fs.length by rw [<-HE.out,hTf];simp [hlab])
    have hlab':(f.label == label)=false:=by simpa using hlab
    clear hTf
    go_wp2
    go_roundw
    case rel=>exact ⟨k,by simp,by omega,HR,trivial⟩
    case measure=>simp [intOf]
end Go.Proofs.Ytfiiihpdekppiaa
end
section
namespace Go.Proofs.Ytfiiihpdekppiaa
open PShapeReducible (S31)
mutual
def szF:S31->Nat
 | ⟨_,_,_,ks⟩=>1+szL ks
def szL:List S31->Nat
 | []=>0
 | k :: ks=>szF k+szL ks
end
abbrev big:Nat:=1000000000
structure Cs.Ok (m:Nat) (c:Cs):Prop where
 st:c.steps.length+2 * m<=big
 us:c.used.length+m<=big
 fr:c.frames.length+m<=big
 br:∀ f∈c.frames,f.brk.length+m<=big/\∀ b∈f.brk,0<=b/\b < c.steps.length
theorem setTos_length (ss:List Stp) (n:Nat) (xs:List Int):(setTos ss n xs).length=ss.length:=by simp [setTos]
theorem addBrk_length (fs:List Frm) (n:Nat) (j:Int):(addBrk fs n j).length=fs.length:=by simp [addBrk]
section
variable {c : Cs} {m : Nat}
theorem Cs.Ok.mono {m':Nat} (h:c.Ok m) (hm:m'<=m):c.Ok m' :=
 ⟨by have:=h.st;omega,by have:=h.us;omega,by have:=h.fr;omega,fun f hf=>⟨by have:=(h.br f hf).1;omega,(h.br f hf).2⟩⟩
theorem Cs.Ok.emit (h:c.Ok m) (h1:c.steps.length+1+2 * m<=big) (p:Stp):(c.emit p).Ok m :=
 ⟨by simp [Cs.emit];omega,h.us,h.fr,fun f hf=>⟨(h.br f hf).1,fun b hb=>by have:=(h.br f hf).2 b hb;simp [Cs.emit];omega⟩⟩
theorem Cs.Ok.setTo (h:c.Ok m) (n:Nat) (xs:List Int):(c.setTo n xs).Ok m :=
 ⟨by simpa [Cs.setTo,setTos_length] using h.st,h.us,h.fr,fun f hf=>⟨(h.br f hf).1,fun b hb=>by simpa [Cs.setTo,setTos_length] using (h.br f hf).2 b hb⟩⟩
theorem Cs.Ok.fail (h:c.Ok m):c.fail.Ok m:=⟨h.st,h.us,h.fr,h.br⟩
theorem land_frames:∀ (es:List Int) (c:Cs),(c.land es).frames=c.frames
 | [],_=>rfl
 | e :: es,c=>by rw [Cs.land,land_frames es];rfl
theorem land_length:∀ (es:List Int) (c:Cs),(c.land es).steps.length=c.steps.length
 | [],_=>rfl
 | e :: es,c=>by rw [Cs.land,land_length es];simp [Cs.setTo,setTos_length]
theorem Cs.Ok.land:∀ (es:List Int) {c:Cs},c.Ok m->(c.land es).Ok m
 | [],_,h=>h
 | e :: es,c,h=>by rw [Cs.land];exact Cs.Ok.land es (h.setTo _ _)
theorem Cs.Ok.open (h:c.Ok (m+1)) (l:Int) (b:Bool):(c.open l b).Ok m :=
 ⟨by have:=h.st;simp [Cs.open];omega,by have:=h.us;simp [Cs.open];omega,by have:=h.fr;simp [Cs.open];omega,fun f hf=>by
  simp only [Cs.open,List.mem_append,List.mem_singleton] at hf
  rcases hf with hf | rfl
  ·exact ⟨by have:=(h.br f hf).1;omega,(h.br f hf).2⟩
  ·exact ⟨by have:=h.st;simp;omega,by simp⟩⟩
theorem Cs.Ok.close (h:c.Ok m) (h1:c.steps.length+1+2 * m<=big) (loop:Bool) (s:Int):(c.close loop s).Ok m/\(c.close loop s).frames.length=c.frames.length - 1/\c.steps.length<=(c.close loop s).steps.length/\(c.close loop s).steps.length<=c.steps.length+1:=by
 have h2:Cs.Ok m { c with frames:=c.frames.take (c.frames.length - 1) } :=
  ⟨h.st,h.us,by have:=h.fr;simp;omega,fun f hf=>h.br f (List.mem_of_mem_take hf)⟩
 unfold Cs.close
 refine ⟨?_,?_,?_,?_⟩
 ·refine Cs.Ok.land _ ?_
  split
  ·exact h2.emit h1 _
  ·exact h2
 ·rw [land_frames];split <;> simp [Cs.emit]
 ·rw [land_length];split <;> simp [Cs.emit]
 ·rw [land_length];split <;> simp [Cs.emit]
theorem mem_addBrk {fs:List Frm} {n:Nat} {j:Int} {f:Frm} (h:f∈addBrk fs n j):f∈fs∨∃ f0∈fs,f={ f0 with brk:=f0.brk++[j] }:=by
 obtain ⟨i,hi⟩:=List.mem_iff_getElem?.1 h
 simp only [addBrk,List.getElem?_modify] at hi
 cases h2:fs[i]? with
 | none=>simp [h2] at hi
 | some f0 =>
  have hm:=List.mem_of_getElem? h2
  by_cases hn:n=i
  ·simp [h2,hn] at hi;exact .inr ⟨f0,hm,hi.symm⟩
  ·simp [h2,hn] at hi;exact .inl (hi ▸ hm)
theorem Cs.Ok.leave (h:c.Ok (m+1)) (k n l:Int) (ks:List S31):(c.leave k n l ks).Ok m/\(c.leave k n l ks).steps.length+1+2 * m<=big/\(c.leave k n l ks).frames.length=c.frames.length/\c.steps.length<=(c.leave k n l ks).steps.length:=by
 have hst:=h.st
 have h0:c.Ok m:=h.mono (by omega)
 unfold Cs.leave
 simp only []
 split
 ·exact ⟨h0.fail,by simp [Cs.fail];omega,rfl,Nat.le_refl _⟩
 ·have h1:=h0.emit (by omega) ⟨1,0,[]⟩
  split
  ·refine ⟨⟨h1.st,h1.us,by simpa [addBrk_length] using h1.fr,fun f hf=>?_⟩,by simp [Cs.emit];omega,by simp [addBrk_length,Cs.emit],by simp [Cs.emit]⟩
   rcases mem_addBrk hf with hf | ⟨f0,hf0,rfl⟩
   ·exact h1.br f hf
   ·have h2:=h.br f0 hf0
    refine ⟨by simp;omega,fun b hb=>?_⟩
    rcases List.mem_append.1 hb with hb | hb
    ·exact (h1.br f0 hf0).2 b hb
    ·rw [List.mem_singleton.1 hb]
     simp [Cs.emit];omega
  ·exact ⟨h1.setTo _ _,by simp [Cs.setTo,setTos_length,Cs.emit];omega,rfl,by simp [Cs.setTo,setTos_length,Cs.emit]⟩
end
mutual
theorem shapeF_ok (g:List (List Int)) (m:Nat):∀ (s:S31) (c:Cs),c.Ok (szF s+m)->(shapeF g s c).Ok m/\(shapeF g s c).steps.length+1+2 * m<=big/\(shapeF g s c).frames.length=c.frames.length/\c.steps.length<=(shapeF g s c).steps.length
 | ⟨kind,node,label,kids⟩,c,h=>by
  simp only [szF] at h
  have hst:=h.st
  have h0:c.Ok m:=h.mono (by omega)
  rw [shapeF]
  split
  ·exact ⟨h0,by omega,rfl,Nat.le_refl _⟩
  split
  ·split
   ·exact ⟨h0.fail,by simp [Cs.fail];omega,rfl,Nat.le_refl _⟩
   ·have:=seqF_ok g (m+1) kids c (h.mono (by omega))
    have h1:=this.1.st
    exact ⟨this.1.mono (by omega),by omega,this.2⟩
  split
  ·split
   ·exact ⟨h0.fail,by simp [Cs.fail];omega,rfl,Nat.le_refl _⟩
   ·have h1:=(h.mono (m':=szL kids+m) (by omega)).emit (by omega) ⟨0,node,[]⟩
    have h2:=kidsF_ok g m kids _ [] [] h1
    simp only []
    refine ⟨Cs.Ok.land _ (h2.1.setTo _ _),?_,?_,?_⟩
    ·rw [land_length];simp only [Cs.setTo,setTos_length];have h3:=h2.2.1;simp [Cs.emit] at h3;simp only [Cs.emit];omega
    ·rw [land_frames];simp only [Cs.setTo];rw [h2.2.2.1];rfl
    ·rw [land_length];simp only [Cs.setTo,setTos_length];have h3:=h2.2.2.2.1;simp only [Cs.emit,List.length_append] at h3 ⊢;omega
  split
  ·split
   ·exact ⟨h0.fail,by simp [Cs.fail];omega,rfl,Nat.le_refl _⟩
   ·have h1:=(h.mono (m':=szL kids+m+1) (by omega)).open label (decide (kind=3))
    have h2:=seqF_ok g m kids _ h1
    have hs:(c.open label (decide (kind=3))).steps.length=c.steps.length:=rfl
    have h5:=h2.2.2
    rw [hs] at h5
    have h4:(seqF g kids (c.open label (decide (kind=3)))).steps.length+1+2 * m<=big:=by
     have:=seqF_st g kids (c.open label (decide (kind=3)))
     rw [hs] at this
     omega
    have h3:=h2.1.close h4 (decide (kind=3)) c.steps.length
    refine ⟨h3.1,?_,?_,?_⟩
    ·have:=seqF_st g kids (c.open label (decide (kind=3)))
     rw [hs] at this
     have:=h3.2.2.2
     omega
    ·rw [h3.2.1,h2.2.1];simp [Cs.open]
    ·have:=h3.2.2.1;omega
  split
  ·exact Cs.Ok.leave (h.mono (by omega)) _ _ _ _
  ·exact ⟨h0.fail,by simp [Cs.fail];omega,rfl,Nat.le_refl _⟩
theorem seqF_ok (g:List (List Int)) (m:Nat):∀ (ks:List S31) (c:Cs),c.Ok (szL ks+m)->(seqF g ks c).Ok m/\(seqF g ks c).frames.length=c.frames.length/\c.steps.length<=(seqF g ks c).steps.length
 | [],c,h=>by rw [seqF];exact ⟨h.mono (by omega),rfl,Nat.le_refl _⟩
 | k :: ks,c,h=>by
  rw [seqF]
  simp only [szL] at h
  have h1:=shapeF_ok g (szL ks+m) k c (h.mono (by omega))
  have h2:=seqF_ok g m ks _ h1.1
  exact ⟨h2.1,by rw [h2.2.1,h1.2.2.1],by have:=h1.2.2.2;have:=h2.2.2;omega⟩
theorem kidsF_ok (g:List (List Int)) (m:Nat):∀ (ks:List S31) (c:Cs) (a b:List Int),c.Ok (szL ks+m)->(kidsF g ks c a b).1.Ok m/\(kidsF g ks c a b).1.steps.length+2 * m<=c.steps.length+2 * (szL ks+m)/\(kidsF g ks c a b).1.frames.length=c.frames.length/\c.steps.length<=(kidsF g ks c a b).1.steps.length/\True
 | [],c,a,b,h=>by rw [kidsF];exact ⟨h.mono (by omega),by simp only [szL];omega,rfl,Nat.le_refl _,trivial⟩
 | k :: ks,c,a,b,h=>by
  rw [kidsF]
  simp only [szL] at h ⊢
  have h1:=shapeF_ok g (szL ks+m) k c (h.mono (by omega))
  have h2:=kidsF_ok g m ks ((shapeF g k c).emit ⟨1,0,[]⟩) (a++[(c.steps.length:Int)]) (b++[((shapeF g k c).steps.length:Int)]) (h1.1.emit (by omega) _)
  have h3:=shapeF_st g k c
  have he:((shapeF g k c).emit ⟨1,0,[]⟩).steps.length=(shapeF g k c).steps.length+1:=by simp [Cs.emit]
  rw [he] at h2
  refine ⟨h2.1,?_,by rw [h2.2.2.1];exact h1.2.2.1,by have:=h1.2.2.2;have:=h2.2.2.2.1;omega,trivial⟩
  have:=h2.2.1
  omega
theorem shapeF_st (g:List (List Int)):∀ (s:S31) (c:Cs),(shapeF g s c).steps.length+1<=c.steps.length+2 * szF s
 | ⟨kind,node,label,kids⟩,c=>by
  simp only [szF]
  rw [shapeF]
  split
  ·omega
  split
  ·split
   ·simp [Cs.fail];omega
   ·have:=seqF_st g kids c;omega
  split
  ·split
   ·simp [Cs.fail];omega
   ·simp only [land_length,Cs.setTo,setTos_length]
    have:=kidsF_st g kids (c.emit ⟨0,node,[]⟩) [] []
    simp only [Cs.emit,List.length_append,List.length_singleton] at this ⊢
    omega
  split
  ·split
   ·simp [Cs.fail];omega
   ·have:=seqF_st g kids (c.open label (decide (kind=3)))
    simp only [Cs.close,land_length]
    simp only [Cs.open] at this ⊢
    split <;> simp [Cs.emit] <;> omega
  split
  ·unfold Cs.leave
   simp only []
   split
   ·simp [Cs.fail];omega
   ·split <;> simp [Cs.setTo,setTos_length,Cs.emit] <;> omega
  ·simp [Cs.fail];omega
theorem seqF_st (g:List (List Int)):∀ (ks:List S31) (c:Cs),(seqF g ks c).steps.length<=c.steps.length+2 * szL ks
 | [],c=>by rw [seqF];omega
 | k :: ks,c=>by
  rw [seqF]
  simp only [szL]
  have:=shapeF_st g k c
  have:=seqF_st g ks (shapeF g k c)
  omega
theorem kidsF_st (g:List (List Int)):∀ (ks:List S31) (c:Cs) (a b:List Int),(kidsF g ks c a b).1.steps.length<=c.steps.length+2 * szL ks
 | [],c,a,b=>by rw [kidsF];simp only [];omega
 | k :: ks,c,a,b=>by
  rw [kidsF]
  simp only [szL]
  have:=shapeF_st g k c
  have:=kidsF_st g ks ((shapeF g k c).emit ⟨1,0,[]⟩) (a++[(c.steps.length:Int)]) (b++[((shapeF g k c).steps.length:Int)])
  simp only [Cs.emit,List.length_append,List.length_singleton] at this ⊢
  omega
end
end Go.Proofs.Ytfiiihpdekppiaa
end
section
namespace Go.Proofs.Ytfiiihpdekppiaa
open Go.RowKit Go.Proofs Go.Proofs.YtfiiihpdekppiaaW.PrintWords
open Go.ChangeMaps (setBlock heap_setBlock_same heap_setBlock_other)
open PShapeReducible (S31 k31 at_T31 rd_T31)
section
variable {w0 w : World} {F H L : List Pc}
theorem Mem.narrow {R:List Pc} (h:Mem w0 w F (L++R)):Mem w0 w (R++F) L:=h.perm (by rw [List.append_assoc])
theorem Mem.one (h:Mem w0 w F H) (x:Int):∃ b w2,w.heap.size=b/\w.alloc (.cells #[.int .i64 x] 3)=w2/\Mem w0 w2 F (H++[.row (.slice (some ⟨b,0,none⟩) 1 1) 3 1 1 (nums .i64 [x])]) :=
 ⟨_,_,rfl,rfl,h.newrow ((Below.refl _ _).alloc (Nat.le_refl _) _) (own_lit1 w w.heap.size x (Nat.le_refl _)) (fun k hk=>by simp [Value.ownBlock] at hk;omega)⟩
theorem emit0 (bc:Nat) (gv:Value) (c:Cs) (p:Cp) (a b:Int) (h:Mem w0 w F (c.own bc gv p++H)) (hl:c.steps.length < 1000000000) :
  Calls Try.prog 69 #[.pointer (some ⟨bc,0,none⟩),.agg #[.int .i64 a,.int .i64 b,.slice none 0 0]] w fun e w'=>e=.returned (.int .i64 c.steps.length)/\∃ p',Mem w0 w' F ((c.emit ⟨a,b,[]⟩).own bc gv p'++H):=by
 refine (emit_any w0 w (H++F) bc gv c p a b nilS [] (h.narrow.nilrow 3 1) hl).mono ?_
 rintro e w' ⟨rfl,A,cc,M⟩
 exact ⟨rfl,_,M.wide⟩
theorem setTos_cells (ss:List Stp) (n:Nat) (xs:List Int):(setTos ss n xs).map Stp.cells=ss.map Stp.cells:=by
 apply List.ext_getElem?
 intro i
 simp only [setTos,List.getElem?_map,List.getElem?_modify]
 cases ss[i]? with
 | none=>rfl
 | some q=>by_cases hn:n=i <;> simp [hn,Stp.cells]
theorem setTos_tos (ss:List Stp) (n:Nat) (xs:List Int):(setTos ss n xs).map Stp.tos=(ss.map Stp.tos).set n xs:=by
 apply List.ext_getElem?
 intro i
 simp only [setTos,List.getElem?_map,List.getElem?_modify,List.getElem?_set]
 by_cases hn:n=i
 ·subst hn
  by_cases hl:n < ss.length
  ·simp [hl]
  ·simp [hl]
 ·simp [hn]
end
theorem step_cell {ss:List Stp} {ts:List Value} (hl:ts.length=ss.length) {n j:Nat} (hn:n < ss.length) (hj:j<=2):(recs (ss.map Stp.cells) ts)[n * 3+j]?=((ss.map Stp.cells).getD n []++[ts.getD n nilS])[j]? :=
 recs_get (m:=2) (by simpa using hl.symm) (by simp [Stp.cells]) (by simpa using hn) hj
theorem Mem.setTo {w0 w:World} {F H:List Pc} {bc:Nat} {gv:Value} {c:Cs} {p:Cp} {n:Nat} {v:Value} {xs:List Int} (h:Mem w0 w F (c.own bc gv p++.row v 3 1 xs.length (nums .i64 xs) :: H)) (hn:n < c.steps.length) :
  ∃ b cc w2,w.cell? ⟨bc,1,none⟩=some (.slice (some ⟨b,0,none⟩) c.steps.length cc)/\w.setCell ⟨b,n * 3+2,none⟩ v=w2/\(∃ u,w.cell? ⟨b,n * 3+2,none⟩=some u)/\w.frozen? ⟨b,n * 3+2,none⟩=false/\Mem w0 w2 F ((c.setTo n xs).own bc gv { p with ts:=p.ts.set n v }++H):=by
 obtain ⟨vS,vF,vU,ts,bs⟩:=p
 obtain ⟨b,cc,e,hcc,hcell⟩:=h.rowForm (k:=1) rfl (by omega)
 dsimp only at e
 subst e
 have hts:ts.length=c.steps.length:=by have:=(h.rows (k:=2) rfl).len;simpa using this
 have h1:=h.row (k:=1) rfl
 obtain ⟨w2,e2,M2⟩:=h.rowPut (k:=1) (n * 3+2) rfl v
 refine ⟨b,cc,w2,h.cell (k:=0) (j:=1) rfl rfl,e2,?_,h1.frozenAt _,?_⟩
 ·have:=step_cell hts hn (j:=2) (by omega)
  have h2:((c.steps.map Stp.cells).getD n []++[ts.getD n nilS])[2]?=some (ts.getD n nilS):=by
   simp [List.getD_eq_getElem?_getD,List.getElem?_map,List.getElem?_eq_getElem hn,Stp.cells]
  exact ⟨_,hcell _ _ (this.trans h2)⟩
 ·have hrec:(recs (c.steps.map Stp.cells) ts).set (n * 3+2) v=recs (c.steps.map Stp.cells) (ts.set n v):=recs_set (m:=2) (by simpa using hts.symm) (by simp [Stp.cells]) (by simpa using hn) v
  have M3:Mem w0 w2 F (.blk bc (.cells #[gv,.slice (some ⟨b,0,none⟩) c.steps.length cc,vF,vU,.bool c.bad] 124 (0,0)) :: .row (.slice (some ⟨b,0,none⟩) c.steps.length cc) 77 3 c.steps.length ((recs (c.steps.map Stp.cells) ts).set (n * 3+2) v) :: .rows ts (c.steps.map Stp.tos) ::
   .row vF 141 4 c.frames.length (recs (c.frames.map Frm.cells) bs) :: .rows bs (c.frames.map Frm.brk) :: .row vU 3 1 c.used.length (nums .i64 c.used) :: .row v 3 1 xs.length (nums .i64 xs) :: H):=M2
  rw [hrec] at M3
  have M4:=M3.rowsSwap (k:=2) (j:=5) (i:=n) rfl rfl (by omega)
  have M5:Mem w0 w2 F (.rows (ts.set n v) ((c.steps.map Stp.tos).set n xs) :: .blk bc (.cells #[gv,.slice (some ⟨b,0,none⟩) c.steps.length cc,vF,vU,.bool c.bad] 124 (0,0)) :: .row (.slice (some ⟨b,0,none⟩) c.steps.length cc) 77 3 c.steps.length (recs (c.steps.map Stp.cells) (ts.set n v)) ::
   .row vF 141 4 c.frames.length (recs (c.frames.map Frm.cells) bs) :: .rows bs (c.frames.map Frm.brk) :: .row vU 3 1 c.used.length (nums .i64 c.used) :: H):=M4
  unfold Cs.own Cs.setTo
  simp only [setTos_cells,setTos_tos,setTos_length]
  refine M5.perm (List.Perm.append_right F ?_)
  simp only [List.cons_append,List.nil_append]
  exact ((List.Perm.swap _ _ _).cons _).trans (List.Perm.swap _ _ _) |>.symm |> fun h=>by
   first | exact h | exact h.symm | exact (List.Perm.trans (List.Perm.cons _ (List.Perm.swap _ _ _)) (List.Perm.swap _ _ _))
def ShapeOk (w0:World) (bc:Nat) (gA:Option Addr) (gc:Nat) (g:List (List Int)) (s:S31):Prop :=
 ∀ (F H:List Pc) (c:Cs) (p:Cp) (w:World) (A:Option Addr) (n m:Nat),Mem w0 w F (c.own bc (.slice gA g.length gc) p++H)->c.Ok (szF s+m)->k31.C w0 A s.f3.length s.f3->s.f3.length<=n ->
  Calls Try.prog 68 #[.pointer (some ⟨bc,0,none⟩),.agg #[.int .i64 s.f0,.int .i64 s.f1,.int .i64 s.f2,.slice A s.f3.length n]] w fun e w'=>e=.returned (.tuple #[])/\∃ p',Mem w0 w' F ((shapeF g s c).own bc (.slice gA g.length gc) p'++H)
theorem own_vS {w0 w:World} {F H:List Pc} {bc:Nat} {gv:Value} {c:Cs} {p:Cp} (M:Mem w0 w F (c.own bc gv p++H)):∃ A n,w.cell? ⟨bc,1,none⟩=some (.slice A c.steps.length n):=by
 obtain ⟨A,n,e,_⟩:=M.rowSlice' (k:=1) rfl
 have:=M.cell (k:=0) (j:=1) rfl rfl
 exact ⟨A,n,this.trans (congrArg some e)⟩
theorem kid_at {w:World} {A:Option Addr} {xs:List S31} (h:k31.C w A xs.length xs) (i:Nat) (hi:i < xs.length):∃ ad A3 c3,A=some ad/\w.cell? (ad.add (i * 4))=some (.int .i64 xs[i].f0)/\w.cell? ⟨(ad.add (i * 4)).block,(ad.add (i * 4)).off+1,none⟩=some (.int .i64 xs[i].f1) /\
  w.cell? ⟨(ad.add (i * 4)).block,(ad.add (i * 4)).off+2,none⟩=some (.int .i64 xs[i].f2)/\w.cell? ⟨(ad.add (i * 4)).block,(ad.add (i * 4)).off+3,none⟩=some (.slice A3 xs[i].f3.length c3)/\xs[i].f3.length<=c3/\k31.C w A3 xs[i].f3.length xs[i].f3:=by
 have:=at_T31 h i (by omega) (by omega)
 have e:rd_T31 xs i=xs[i]:=by simp [rd_T31,List.getD_eq_getElem?_getD,hi]
 rw [e] at this
 simpa using this
theorem szL_len:∀ ks:List S31,ks.length<=szL ks
 | []=>Nat.le_refl _
 | ⟨_,_,_,_⟩ :: ks=>by have:=szL_len ks;simp [szL,szF];omega
def rvisitF (g:List (List Int)) (node label:Int) (kids:List S31) (c:Cs):Cs :=
 if node < 0∨(g.length:Int)<=node∨kids.length≠(g.getD node.toNat []).length∨label≠0 then c.fail
 else
  let r:=kidsF g kids (c.emit ⟨0,node,[]⟩) [] []
  (r.1.setTo c.steps.length r.2.1).land r.2.2
set_option maxRecDepth 100000 in
set_option maxHeartbeats 4000000 in
theorem rvisit_any (w0:World) (bc:Nat) (gA:Option Addr) (gc:Nat) (g:List (List Int)) (hG:kG.C w0 gA g.length g) (hg:g.length<=1000000000) (kind node label:Int) (kids:List S31) (ih:∀ k∈kids,ShapeOk w0 bc gA gc g k)
  (F:List Pc) (c:Cs) (p:Cp) (w:World) (A:Option Addr) (n m:Nat) (M:Mem w0 w F (c.own bc (.slice gA g.length gc) p)) (hok:c.Ok (szL kids+1+m)) (hK:k31.C w0 A kids.length kids) (hn:kids.length<=n) :
  Calls Try.prog 88 #[.pointer (some ⟨bc,0,none⟩),.agg #[.int .i64 kind,.int .i64 node,.int .i64 label,.slice A kids.length n]] w fun e w'=>e=.returned (.tuple #[])/\∃ p',Mem w0 w' F ((rvisitF g node label kids c).own bc (.slice gA g.length gc) p'):=by
 obtain ⟨b3,w1,z1,a1,M1⟩:=M.alloc (.cells #[.int .i64 kind,.int .i64 node,.int .i64 label,.slice A kids.length n] 31)
 obtain ⟨w2,z2,M2⟩:=M1.drew
 have e1:w2.cell? ⟨b3,1,none⟩=some (.int .i64 node):=M2.cell (k:=6) (j:=1) rfl rfl
 have e2:w2.cell? ⟨b3,2,none⟩=some (.int .i64 label):=M2.cell (k:=6) (j:=2) rfl rfl
 have e3:w2.cell? ⟨b3,3,none⟩=some (.slice A kids.length n):=M2.cell (k:=6) (j:=3) rfl rfl
 have k0:w2.cell? ⟨bc,0,none⟩=some (.slice gA g.length gc):=M2.cell (k:=0) (j:=0) rfl rfl
 have HG:=ak_ hG
 have HK:=ak_ hK
 have IH:=ak_ ih
 clear M M1 hG hK ih
 unfold rvisitF
 by_cases hbad:node < 0∨(g.length:Int)<=node∨kids.length≠(g.getD node.toNat []).length∨label≠0
 ·rw [if_pos hbad]
  obtain ⟨w3,s3,M3⟩:=M2.set (k:=0) 4 rfl (.bool true)
  have f4:=M2.free (k:=0) (j:=4) rfl
  have k4:w2.cell? ⟨bc,4,none⟩=some (.bool c.bad):=M2.cell (k:=0) (j:=4) rfl rfl
  have M3:=ak_ M3
  by_cases h1:node < 0
  ·clear M2 hbad
   go_enter Try.func88,Try.ntmps88
   go_wp2_with (first | (rw [z2]) | (refine wp_region_txt (fun _=>True) [] (by kernel_rfl) (by kernel_rfl) ?_) | (with_reducible refine wpT_nil ?_) | (refine wpT_W (v:=?_) trivial (by decide) (by first | exact wn_ rfl | rfl) (fun _ hS_=>?_) ?_;rotate_left;(focus ((try dsimp only at hS_);go_simp;rfl));(simp only [Act.put,sA_,sB_,sC_])) | (refine wpT_R (v:=?_) trivial (by decide) (by first | exact wn_ rfl | rfl) ?_ ?_;rotate_left;(focus (go_simp;rfl));(simp only [Act.put,sA_,sB_,sC_])) | (refine wpT_A (v:=?_) (ob:=?_) trivial (by decide) (by first | exact wn_ rfl | rfl) ?_ ?_ ?_;rotate_left 2;(focus (go_simp;first | (constructor <;> rfl) | rfl));(focus (exact trivial));(simp only [Act.put,sA_,sB_,sC_])) | (refine wpT_no trivial rfl (by decide) ?_;(simp only [Act.put,sA_,sB_,sC_])))
   refine bodyPost_ret (results_none rfl _ _ _) rfl ?_
   exact ⟨rfl,_,M3.out.lose (k:=6) rfl⟩
  by_cases h2:(g.length:Int)<=node
  ·clear M2 hbad
   have h2':node ≥ (g.length:Int):=h2
   go_enter Try.func88,Try.ntmps88
   go_wp2_with (first | (rw [z2]) | (refine wp_region_txt (fun _=>True) [] (by kernel_rfl) (by kernel_rfl) ?_) | (with_reducible refine wpT_nil ?_) | (refine wpT_W (v:=?_) trivial (by decide) (by first | exact wn_ rfl | rfl) (fun _ hS_=>?_) ?_;rotate_left;(focus ((try dsimp only at hS_);go_simp;rfl));(simp only [Act.put,sA_,sB_,sC_])) | (refine wpT_R (v:=?_) trivial (by decide) (by first | exact wn_ rfl | rfl) ?_ ?_;rotate_left;(focus (go_simp;rfl));(simp only [Act.put,sA_,sB_,sC_])) | (refine wpT_A (v:=?_) (ob:=?_) trivial (by decide) (by first | exact wn_ rfl | rfl) ?_ ?_ ?_;rotate_left 2;(focus (go_simp;first | (constructor <;> rfl) | rfl));(focus (exact trivial));(simp only [Act.put,sA_,sB_,sC_])) | (refine wpT_no trivial rfl (by decide) ?_;(simp only [Act.put,sA_,sB_,sC_])))
   refine bodyPost_ret (results_none rfl _ _ _) rfl ?_
   exact ⟨rfl,_,M3.out.lose (k:=6) rfl⟩
  obtain ⟨d,rfl⟩:∃ d:Nat,node=d:=⟨node.toNat,by omega⟩
  have hd:d < g.length:=by omega
  obtain ⟨ga,Ar,cr,e,j1,hcr,hr⟩:=C_row (Kd.C_below HG.out M2.hb) d hd
  subst e
  have hd':(d:Int) < g.length:=by omega
  simp only [Int.toNat_natCast] at hbad
  obtain ⟨l,hl⟩:∃ l,l=g.getD d []:=⟨_,rfl⟩
  rw [<-hl] at hbad j1 hcr hr
  have q0:¬ ((d:Int) < 0):=by omega
  have q1:¬ g.length<=d:=by omega
  clear hr hcr hl
  by_cases h3:kids.length=l.length
  ·have h4:label≠0:=by
    rcases hbad with h | h | h | h
    ·exact absurd h h1
    ·exact absurd h h2
    ·exact absurd h3 h
    ·exact h
   have h3s:=h3.symm
   clear h3
   clear M2 hbad h2 h1
   go_enter Try.func88,Try.ntmps88
   go_wp2_with (first | (rw [z2]) | (refine wp_region_txt (fun _=>True) [] (by kernel_rfl) (by kernel_rfl) ?_) | (with_reducible refine wpT_nil ?_) | (refine wpT_W (v:=?_) trivial (by decide) (by first | exact wn_ rfl | rfl) (fun _ hS_=>?_) ?_;rotate_left;(focus ((try dsimp only at hS_);go_simp;rfl));(simp only [Act.put,sA_,sB_,sC_])) | (refine wpT_R (v:=?_) trivial (by decide) (by first | exact wn_ rfl | rfl) ?_ ?_;rotate_left;(focus (go_simp;rfl));(simp only [Act.put,sA_,sB_,sC_])) | (refine wpT_A (v:=?_) (ob:=?_) trivial (by decide) (by first | exact wn_ rfl | rfl) ?_ ?_ ?_;rotate_left 2;(focus (go_simp;first | (constructor <;> rfl) | rfl));(focus (exact trivial));(simp only [Act.put,sA_,sB_,sC_])) | (refine wpT_no trivial rfl (by decide) ?_;(simp only [Act.put,sA_,sB_,sC_])))
   refine bodyPost_ret (results_none rfl _ _ _) rfl ?_
   exact ⟨rfl,_,M3.out.lose (k:=6) rfl⟩
  ·have h3s:((kids.length:Int) != (l.length:Int))=true:=bne_iff_ne.mpr (by omega)
   clear M2 hbad h2 h1
   go_enter Try.func88,Try.ntmps88
   go_wp2_with (first | (rw [z2]) | (refine wp_region_txt (fun _=>True) [] (by kernel_rfl) (by kernel_rfl) ?_) | (with_reducible refine wpT_nil ?_) | (refine wpT_W (v:=?_) trivial (by decide) (by first | exact wn_ rfl | rfl) (fun _ hS_=>?_) ?_;rotate_left;(focus ((try dsimp only at hS_);go_simp;rfl));(simp only [Act.put,sA_,sB_,sC_])) | (refine wpT_R (v:=?_) trivial (by decide) (by first | exact wn_ rfl | rfl) ?_ ?_;rotate_left;(focus (go_simp;rfl));(simp only [Act.put,sA_,sB_,sC_])) | (refine wpT_A (v:=?_) (ob:=?_) trivial (by decide) (by first | exact wn_ rfl | rfl) ?_ ?_ ?_;rotate_left 2;(focus (go_simp;first | (constructor <;> rfl) | rfl));(focus (exact trivial));(simp only [Act.put,sA_,sB_,sC_])) | (refine wpT_no trivial rfl (by decide) ?_;(simp only [Act.put,sA_,sB_,sC_])))
   refine bodyPost_ret (results_none rfl _ _ _) rfl ?_
   exact ⟨rfl,_,M3.out.lose (k:=6) rfl⟩
 ·rw [if_neg hbad]
  have hbad':0<=node/\node < (g.length:Int)/\kids.length=(g.getD node.toNat []).length/\label=0:=by
   refine ⟨?_,?_,?_,?_⟩
   ·exact Int.not_lt.1 (fun h=>hbad (.inl h))
   ·exact Int.not_le.1 (fun h=>hbad (.inr (.inl h)))
   ·exact Classical.byContradiction (fun h=>hbad (.inr (.inr (.inl h))))
   ·exact Classical.byContradiction (fun h=>hbad (.inr (.inr (.inr h))))
  obtain ⟨h1,h2,h3,rfl⟩:=hbad'
  obtain ⟨d,rfl⟩:∃ d:Nat,node=d:=⟨node.toNat,by omega⟩
  have hd:d < g.length:=by omega
  obtain ⟨ga,Ar,cr,e,j1,hcr,hr⟩:=C_row (Kd.C_below HG.out M2.hb) d hd
  subst e
  have hd':(d:Int) < g.length:=by omega
  simp only [Int.toNat_natCast] at h3
  obtain ⟨l,hl⟩:∃ l,l=g.getD d []:=⟨_,rfl⟩
  rw [<-hl] at h3 j1 hcr hr
  have q0:¬ ((d:Int) < 0):=by omega
  have q1:¬ g.length<=d:=by omega
  have h3s:=h3.symm
  have M3:Mem w0 w2 F (c.own bc (.slice (some ga) g.length gc) p++[.blk b3 (.cells #[.int .i64 kind,.int .i64 (d:Int),.int .i64 0,.slice A kids.length n] 31 (0,0))]):=M2
  have hst:=hok.st
  have hck:c.steps.length < 1000000000:=by simp only [big] at hst;omega
  have hbig:kids.length < 1000000000:=by have:=szL_len kids;simp only [big] at hst;omega
  obtain ⟨R,hR⟩:∃ R,R=kidsF g kids (c.emit ⟨0,d,[]⟩) [] []:=⟨_,rfl⟩
  rw [<-hR]
  have HR:=ak_ hR
  have M3:=ak_ M3
  have HOK:=ak_ hok
  obtain ⟨N,hN⟩:∃ N,N=c.steps.length:=⟨_,rfl⟩
  have HN:=ak_ hN
  clear M2 hbad h3 hr hcr hl hR hok hst h1 h2
  go_enter Try.func88,Try.ntmps88
  go_wp2_with (first
   | (go_at_call 69;refine (emit0 bc _ c p 0 (d:Int) M3.out hck).mono ?_;rintro e w4 ⟨rfl,p4,M4⟩;have M4:=ak_ M4)
   | (rw [z2]) | (refine wp_region_txt (fun _=>True) [] (by kernel_rfl) (by kernel_rfl) ?_) | (with_reducible refine wpT_nil ?_) | (refine wpT_W (v:=?_) trivial (by decide) (by first | exact wn_ rfl | rfl) (fun _ hS_=>?_) ?_;rotate_left;(focus ((try dsimp only at hS_);go_simp;rfl));(simp only [Act.put,sA_,sB_,sC_])) | (refine wpT_R (v:=?_) trivial (by decide) (by first | exact wn_ rfl | rfl) ?_ ?_;rotate_left;(focus (go_simp;rfl));(simp only [Act.put,sA_,sB_,sC_])) | (refine wpT_A (v:=?_) (ob:=?_) trivial (by decide) (by first | exact wn_ rfl | rfl) ?_ ?_ ?_;rotate_left 2;(focus (go_simp;first | (constructor <;> rfl) | rfl));(focus (exact trivial));(simp only [Act.put,sA_,sB_,sC_])) | (refine wpT_no trivial rfl (by decide) ?_;(simp only [Act.put,sA_,sB_,sC_])))
  go_loopw [5,6,7] (fun v5 v6 t wr=>∃ (i:Nat) (c':Cs) (p':Cp) (a b:List Int),t=.int .i64 i/\i<=kids.length/\Aside0 (a.length=i/\b.length=i)/\Aside0 (kidsF g (kids.drop i) c' a b=R)/\Aside0 (c'.Ok (szL (kids.drop i)+m))/\Aside0 (c.steps.length < c'.steps.length/\∀ e∈b,0<=e/\e < c'.steps.length) /\
   Aside0 (Mem w0 wr F (c'.own bc (.slice (some ga) g.length gc) p'++[.blk b3 (.cells #[.int .i64 kind,.int .i64 (d:Int),.int .i64 0,.slice A kids.length n] 31 (0,0)),.row v5 3 1 i (nums .i64 a),.row v6 3 1 i (nums .i64 b)]))) (fun _ _ t _=>kids.length - (intOf t).toNat)
  case atStart =>
   refine ⟨0,_,p4,[],[],rfl,Nat.zero_le _,⟨rfl,rfl⟩,⟨HR.out.symm⟩,⟨?_⟩,⟨by simp [Cs.emit],by simp⟩,⟨?_⟩⟩
   ·have h1:=HOK.out
    have h2:=h1.st
    exact (h1.mono (by simp)).emit (by simp at h2 ⊢;omega) _
   ·exact (M4.out.nilrow 3 1).nilrow 3 1
  case round =>
   clear M3 M4 HOK
   obtain ⟨i,c',p',a,b,rfl,hi,hab,hA,hO,hE,hM⟩:=hrel
   have e3:=hM.out.cell (k:=6) (j:=3) rfl rfl
   by_cases hlt:i < kids.length
   ·obtain ⟨k,hk⟩:∃ k,k=kids[i]:=⟨_,rfl⟩
    obtain ⟨ad,A3,c3,e,g0,g1,g2,g3,hc3,hC3⟩:=kid_at HK.out i hlt
    subst e
    rw [<-hk] at g0 g1 g2 g3 hc3 hC3
    have hA2:=hA.out
    have hO2:=hO.out
    rw [List.drop_eq_getElem_cons hlt,<-hk] at hA2 hO2
    rw [kidsF] at hA2
    simp only [szL] at hO2
    have hkm:k∈kids:=by rw [hk];exact List.getElem_mem hlt
    have IHK:=ak_ (IH.out k hkm)
    have HA:=ak_ hA2
    have HO:=ak_ hO2
    have HC3:=ak_ hC3
    have GG:=ak_ (And.intro g0 (And.intro g1 (And.intro g2 g3)))
    obtain ⟨AS,cS,k1⟩:=own_vS hM.out
    obtain ⟨A5,c5,e5,_⟩:=hM.out.rowSlice' (k:=7) rfl
    obtain ⟨A6,c6,e6,_⟩:=hM.out.rowSlice' (k:=8) rfl
    subst e5 e6
    have hlt':(i:Int) < kids.length:=by omega
    have HD:=ak_ (show (shapeF g k c').steps.length < 1000000000 by have h9:=(shapeF_ok g (szL (kids.drop (i+1))+m) k c' (HO.out.mono (by omega))).2.1;simp only [big] at h9;omega)
    clear hA hO hA2 hO2 hkm hC3 g0 g1 g2 g3 hk e1 e2 k0 j1 q0 q1 h3s
    go_wp2_with (first
     | ((with_reducible refine gate_dst (N:=66) rfl ?_);refine mem_append 7 (.tmp 59) (.tmp 65) 23 3 (.int .i64 0) 1 8 rfl rfl Try.underlying23 PShapeReducible.info3 rfl (by decide) (by decide) _ i (nums .i64 a) [.int .i64 (c'.steps.length:Int)] rfl rfl rfl (by simp [Value.oneCell']) hM.out rfl (by omega) ?_;intro A7 c7 w7 M7;have g3:=M7.cell (k:=6) (j:=3) rfl rfl;have q0:=pw_cell_below M7.hb GG.out.1;have q1:=pw_cell_below M7.hb GG.out.2.1;have q2:=pw_cell_below M7.hb GG.out.2.2.1;have q3:=pw_cell_below M7.hb GG.out.2.2.2;have M7:=ak_ M7)
     | (go_at_call 68;refine (IHK.out F _ c' p' w7 A3 c3 (szL (kids.drop (i+1))+m) M7.out (HO.out.mono (by omega)) HC3.out hc3).mono ?_;rintro e w8 ⟨rfl,p8,M8⟩;have M8:=ak_ M8)
     | (go_at_call 69;refine (emit0 bc _ _ p8 1 0 M8.out HD.out).mono ?_;rintro e w9 ⟨rfl,p9,M9⟩;have M9:=ak_ M9)
     | ((with_reducible refine gate_dst (N:=79) rfl ?_);refine mem_append 8 (.tmp 74) (.tmp 78) 23 3 (.int .i64 0) 1 8 rfl rfl Try.underlying23 PShapeReducible.info3 rfl (by decide) (by decide) _ i (nums .i64 b) [.int .i64 ((shapeF g k c').steps.length:Int)] rfl rfl rfl (by simp [Value.oneCell']) M9.out rfl (by omega) ?_;intro A10 c10 w10 M10;have M10:=ak_ M10))
    go_roundw
    case rel =>
     have h9:=shapeF_ok g (szL (kids.drop (i+1))+m) k c' (HO.out.mono (by omega))
     refine ⟨i+1,(shapeF g k c').emit ⟨1,0,[]⟩,p9,a++[(c'.steps.length:Int)],b++[((shapeF g k c').steps.length:Int)],by go_num,by omega,⟨by simp [hab.out]⟩,⟨HA.out⟩,⟨h9.1.emit h9.2.1 _⟩,⟨?_,?_⟩,⟨?_⟩⟩
     ·have:=hE.out.1;have:=h9.2.2.2;simp [Cs.emit];omega
     ·intro e he
      have hl:=h9.2.2.2
      simp only [Cs.emit,List.length_append,List.length_singleton]
      rcases List.mem_append.1 he with he | he
      ·have:=hE.out.2 e he;omega
      ·rw [List.mem_singleton.1 he];omega
     ·rw [nums_append,nums_append]
      exact M10.out
    case measure=>simp [intOf];omega
   ·obtain rfl:i=kids.length:=by omega
    have hA2:=hA.out
    rw [List.drop_length,kidsF] at hA2
    subst hA2
    clear HR hlt hi HK IH
    obtain ⟨A5,c5,e5,_⟩:=hM.out.rowSlice' (k:=7) rfl
    obtain ⟨A6,c6,e6,_⟩:=hM.out.rowSlice' (k:=8) rfl
    subst e5 e6
    have M5:Mem w0 wr F (c'.own bc (.slice (some ga) g.length gc) p'++.row (.slice A5 kids.length c5) 3 1 a.length (nums .i64 a) :: [.blk b3 (.cells #[.int .i64 kind,.int .i64 (d:Int),.int .i64 0,.slice A kids.length n] 31 (0,0)),.row (.slice A6 kids.length c6) 3 1 kids.length (nums .i64 b)]):=by
     have:=hM.out.order [0,1,2,3,4,5,7,6,8] rfl
     rw [hab.out.1]
     exact this
    obtain ⟨bS,cS,w6,k1,s6,⟨u,t6⟩,f6,M6⟩:=M5.setTo hE.out.1
    have hl1:(c.steps.length:Int) < c'.steps.length:=by have:=hE.out.1;omega
    have M6:=ak_ M6
    have hE2:=ak_ (show ∀ e∈b,0<=e/\e < (c'.setTo c.steps.length a).steps.length by simpa [Cs.setTo,setTos_length] using hE.out.2)
    have hS2:=ak_ (show (c'.setTo c.steps.length a).steps.length<=1000000000 by have h8:=hO.out.st;simp only [Cs.setTo,setTos_length];simp only [big] at h8;omega)
    have hab2:=hab.out.2
    have HL:=ak_ hab2
    clear hab2 hE hA hO M5 hM e1 e2 k0 j1 q0 q1 h3s
    go_wp2
    clear k1 s6 t6 f6 hl1 e3
    obtain ⟨cZ,hcZ⟩:∃ cZ,cZ=(c'.setTo c.steps.length a).land b:=⟨_,rfl⟩
    have HZ:=ak_ hcZ
    clear hcZ
    go_loopw [8] (fun t wr=>∃ (i:Nat) (c'':Cs) (p'':Cp),t=.int .i64 i/\i<=kids.length/\Aside0 (c''.land (b.drop i)=cZ)/\Aside0 (∀ e∈b,0<=e/\e < c''.steps.length)/\Aside0 (c''.steps.length<=1000000000) /\
     Aside0 (Mem w0 wr F (c''.own bc (.slice (some ga) g.length gc) p''++[.blk b3 (.cells #[.int .i64 kind,.int .i64 (d:Int),.int .i64 0,.slice A kids.length n] 31 (0,0)),.row (.slice A6 kids.length c6) 3 1 kids.length (nums .i64 b)]))) (fun t _=>kids.length - (intOf t).toNat)
    case atStart=>exact ⟨0,_,_,rfl,Nat.zero_le _,⟨HZ.out.symm⟩,hE2,hS2,M6⟩
    case round =>
     clear M6
     obtain ⟨i,c2,p2,rfl,hi,hA,hE,hS,hM⟩:=hrel
     by_cases hlt:i < kids.length
     ·obtain ⟨b6,c6',e9,j2⟩:=hM.out.rowNum (k:=7) (i:=i) rfl HL.out.symm (by have:=HL.out;omega)
      simp only [Value.slice.injEq] at e9
      obtain ⟨rfl,hx9,rfl⟩:=e9
      clear hx9
      have hbi:b.getD i 0∈b:=by rw [List.getD_eq_getElem?_getD,List.getElem?_eq_getElem (by have:=HL.out;omega)];exact List.getElem_mem _
      obtain ⟨q,hq⟩:∃ q:Nat,b.getD i 0=q:=⟨(b.getD i 0).toNat,by have:=(hE.out _ hbi).1;omega⟩
      have hql:q < c2.steps.length:=by have:=(hE.out _ hbi).2;omega
      have hA2:=hA.out
      rw [List.drop_eq_getElem_cons (by have:=HL.out;omega),Cs.land,show b[i]'(by have:=HL.out;omega)=(q:Int) by rw [<-hq,List.getD_eq_getElem?_getD,List.getElem?_eq_getElem (by have:=HL.out;omega)];rfl,Int.toNat_natCast] at hA2
      have HA:=ak_ hA2
      obtain ⟨w7,z7,M7⟩:=hM.out.drew
      rw [hq] at j2
      have j3:=(show w7.cell? ⟨b6,i,none⟩=some (.int .i64 q) by rw [<-z7];exact j2)
      obtain ⟨n8,w8,z8,a8,M8⟩:=M7.one (c2.steps.length:Int)
      have M8':=(M8.order [0,1,2,3,4,5,8,6,7] rfl)
      obtain ⟨bS,cS,w9,k1,s9,⟨u9',t9⟩,f9,M9⟩:=Mem.setTo (n:=q) (xs:=[(c2.steps.length:Int)]) (H:=[.blk b3 (.cells #[.int .i64 kind,.int .i64 (d:Int),.int .i64 0,.slice A kids.length n] 31 (0,0)),.row _ 3 1 kids.length (nums .i64 b)]) M8' hql
      have M9:=ak_ M9
      have k2:w7.cell? ⟨bc,1,none⟩=some (.slice (some ⟨bS,0,none⟩) c2.steps.length cS):=by
       obtain ⟨A,nn,e⟩:=own_vS M7
       have h1:=pw_cell_below (below_alloc (Below.refl _ _) (.cells #[.int .i64 (c2.steps.length:Int)] 3)) e
       rw [a8,k1] at h1
       rw [e,<-h1]
      have hlt':(i:Int) < kids.length:=by omega
      have hql':(q:Int) < c2.steps.length:=by omega
      clear hA hA2 hM hbi hq hql M7 M8 M8'
      have A8:=ak_ (And.intro a8 z8)
      clear a8 z8
      go_wp2_with (first | (rw [z7]) | (refine wp_region_txt (fun _=>True) [] (by kernel_rfl) (by kernel_rfl) ?_))
      iterate 14 ((first | (with_reducible refine wpT_nil ?_) | (refine wpT_W (v:=?_) trivial (by decide) (wn_ rfl) (fun _ hS_=>?_) ?_;rotate_left;(focus ((try dsimp only at hS_);go_simp;rfl))) | (refine wpT_R (v:=?_) trivial (by decide) (wn_ rfl) ?_ ?_;rotate_left;(focus (go_simp;rfl))) | (refine wpT_A (v:=?_) (ob:=?_) trivial (by decide) (wn_ rfl) ?_ ?_ ?_;rotate_left 2;(focus (go_simp;first | (constructor <;> rfl) | rfl));(focus (exact trivial))));(try simp only [Act.put,sA_,sB_,sC_]))
      rw [A8.out.1,A8.out.2]
      iterate 2 ((first | (with_reducible refine wpT_nil ?_) | (refine wpT_W (v:=?_) trivial (by decide) (wn_ rfl) (fun _ hS_=>?_) ?_;rotate_left;(focus ((try dsimp only at hS_);go_simp;rfl))) | (refine wpT_R (v:=?_) trivial (by decide) (wn_ rfl) ?_ ?_;rotate_left;(focus (go_simp;rfl))) | (refine wpT_A (v:=?_) (ob:=?_) trivial (by decide) (wn_ rfl) ?_ ?_ ?_;rotate_left 2;(focus (go_simp;first | (constructor <;> rfl) | rfl));(focus (exact trivial))));(try simp only [Act.put,sA_,sB_,sC_]))
      (refine wpT_L trivial (by decide) (wn_ rfl) (fun K_ hK_=>?_);go_simp;refine hK_ _ _ trivial ?_;clear hK_)
      refine wpT_nil ?_
      clear k1 k2 j2 j3 s9 t9 f9 z7
      go_wp2
      go_roundw
      case rel=>exact ⟨i+1,_,_,by go_num,by omega,HA,⟨by simpa [Cs.setTo,setTos_length] using hE.out⟩,⟨by simpa [Cs.setTo,setTos_length] using hS.out⟩,M9⟩
      case measure=>simp [intOf];omega
     ·obtain rfl:i=kids.length:=by omega
      have hA2:=hA.out
      rw [List.drop_eq_nil_of_le (by have:=HL.out;omega),Cs.land] at hA2
      go_wp2
      go_end0
      refine ⟨rfl,p2,?_⟩
      rw [HZ.out] at hA2
      rw [<-hA2]
      exact (hM.out.lose (k:=7) rfl).lose (k:=6) rfl
end Go.Proofs.Ytfiiihpdekppiaa
end
