/- A part of the proof that vellumlaw12.ShapeAcyclic is true for every input: walks of functions that the row reaches and plain laws that they need. Conditions: none. Joined by merge.py out of C31 C32 C33; a part that began as a print is named P or W there and is trimmed. -/
import Derived.Test.YtfiiihpdekppiaaA18
set_option linter.unusedVariables false
set_option linter.unusedSimpArgs false
section
namespace Go.Proofs.Ytfiiihpdekppiaa
open Go.RowKit Go.Proofs Go.Proofs.YtfiiihpdekppiaaW.PrintWords
open Go.ChangeMaps (setBlock heap_setBlock_same heap_setBlock_other)
open PShapeReducible (S31 k31 at_T31 rd_T31)
section
variable {w0 w : World} {F H L : List Pc}
theorem add0 (bc:Nat) (gv:Value) (c:Ks) (bm:Nat) (p:Kp) (a b:Int) (h:Mem w0 w F (c.own bc gv bm p++H)) (hl:c.pts.length < 1000000000) :
  Calls Try.prog 51 #[.pointer (some ⟨bc,0,none⟩),.agg #[.int .i64 a,.int .i64 b,.slice none 0 0]] w fun e w'=>e=.returned (.int .i64 c.pts.length)/\∃ p',Mem w0 w' F ((c.emit ⟨a,b,[]⟩).own bc gv bm p'++H):=by
 refine (add_any w0 w (H++F) bc gv c bm p a b nilS [] (h.narrow.nilrow 3 1) hl).mono ?_
 rintro e w' ⟨rfl,A,cc,M⟩
 exact ⟨rfl,_,M.wide⟩
theorem addTos_cells (ss:List Stp) (n:Nat) (x:Int):(addTos ss n x).map Stp.cells=ss.map Stp.cells:=by
 apply List.ext_getElem?
 intro i
 simp only [addTos,List.getElem?_map,List.getElem?_modify]
 cases ss[i]? with
 | none=>rfl
 | some q=>by_cases hn:n=i <;> simp [hn,Stp.cells]
theorem addTos_tos (ss:List Stp) (n:Nat) (x:Int):(addTos ss n x).map Stp.tos=(ss.map Stp.tos).set n ((ss.map Stp.tos).getD n []++[x]):=by
 apply List.ext_getElem?
 intro i
 simp only [addTos,List.getElem?_map,List.getElem?_modify,List.getElem?_set,List.getD_eq_getElem?_getD]
 by_cases hn:n=i
 ·subst hn
  cases h:ss[n]? with
  | none =>
   have:=List.getElem?_eq_none_iff.1 h
   simp;omega
  | some q =>
   have:=(List.getElem?_eq_some_iff.1 h).1
   simp [this]
 ·simp [hn]
end
theorem Mem.setToK {w0 w:World} {F H:List Pc} {bc:Nat} {gv:Value} {c:Ks} {bm:Nat} {p:Kp} {n:Nat} {v:Value} {xs:List Int} (h:Mem w0 w F (c.own bc gv bm p++.row v 3 1 xs.length (nums .i64 xs) :: H)) (hn:n < c.pts.length) :
  ∃ b cc w2,w.cell? ⟨bc,1,none⟩=some (.slice (some ⟨b,0,none⟩) c.pts.length cc)/\w.setCell ⟨b,n * 3+2,none⟩ v=w2/\(∃ u,w.cell? ⟨b,n * 3+2,none⟩=some u)/\w.frozen? ⟨b,n * 3+2,none⟩=false/\Mem w0 w2 F ((c.setTo n xs).own bc gv bm { p with ts:=p.ts.set n v }++H):=by
 obtain ⟨vS,vF,ts,bs⟩:=p
 obtain ⟨b,cc,e,hcc,hcell⟩:=h.rowForm (k:=1) rfl (by omega)
 dsimp only at e
 subst e
 have hts:ts.length=c.pts.length:=by have:=(h.rows (k:=2) rfl).len;simpa using this
 have h1:=h.row (k:=1) rfl
 obtain ⟨w2,e2,M2⟩:=h.rowPut (k:=1) (n * 3+2) rfl v
 refine ⟨b,cc,w2,h.cell (k:=0) (j:=1) rfl rfl,e2,?_,h1.frozenAt _,?_⟩
 ·have:=step_cell hts hn (j:=2) (by omega)
  have h2:((c.pts.map Stp.cells).getD n []++[ts.getD n nilS])[2]?=some (ts.getD n nilS):=by
   simp [List.getD_eq_getElem?_getD,List.getElem?_map,List.getElem?_eq_getElem hn,Stp.cells]
  exact ⟨_,hcell _ _ (this.trans h2)⟩
 ·have hrec:(recs (c.pts.map Stp.cells) ts).set (n * 3+2) v=recs (c.pts.map Stp.cells) (ts.set n v):=recs_set (m:=2) (by simpa using hts.symm) (by simp [Stp.cells]) (by simpa using hn) v
  have M3:Mem w0 w2 F (.blk bc (.cells #[gv,.slice (some ⟨b,0,none⟩) c.pts.length cc,vF,.map (some bm)] 86 (0,0)) :: .row (.slice (some ⟨b,0,none⟩) c.pts.length cc) 90 3 c.pts.length ((recs (c.pts.map Stp.cells) ts).set (n * 3+2) v) :: .rows ts (c.pts.map Stp.tos) ::
   .row vF 144 4 c.opn.length (recs (c.opn.map Frm.cells) bs) :: .rows bs (c.opn.map Frm.brk) :: .blk bm (mB c.lab) :: .row v 3 1 xs.length (nums .i64 xs) :: H):=M2
  rw [hrec] at M3
  have M4:=M3.rowsSwap (k:=2) (j:=5) (i:=n) rfl rfl (by omega)
  have M5:Mem w0 w2 F (.rows (ts.set n v) ((c.pts.map Stp.tos).set n xs) :: .blk bc (.cells #[gv,.slice (some ⟨b,0,none⟩) c.pts.length cc,vF,.map (some bm)] 86 (0,0)) :: .row (.slice (some ⟨b,0,none⟩) c.pts.length cc) 90 3 c.pts.length (recs (c.pts.map Stp.cells) (ts.set n v)) ::
   .row vF 144 4 c.opn.length (recs (c.opn.map Frm.cells) bs) :: .rows bs (c.opn.map Frm.brk) :: .blk bm (mB c.lab) :: H):=M4
  unfold Ks.own Ks.setTo
  simp only [setTos_cells,setTos_tos,setTos_length]
  refine M5.perm (List.Perm.append_right F ?_)
  simp only [List.cons_append,List.nil_append]
  exact ((List.Perm.swap _ _ _).cons _).trans (List.Perm.swap _ _ _) |>.symm |> fun h=>by
   first | exact h | exact h.symm | exact (List.Perm.trans (List.Perm.cons _ (List.Perm.swap _ _ _)) (List.Perm.swap _ _ _))
def ConvOk (w0:World) (bc:Nat) (gA:Option Addr) (gc:Nat) (bm:Nat) (g:List (List Int)) (s:S31):Prop :=
 ∀ (F H:List Pc) (c:Ks) (p:Kp) (w:World) (A:Option Addr) (n m:Nat),Mem w0 w F (c.own bc (.slice gA g.length gc) bm p++H)->c.Ok (3 * szF s - 1+m)->k31.C w0 A s.f3.length s.f3->s.f3.length<=n ->
  Calls Try.prog 50 #[.pointer (some ⟨bc,0,none⟩),.agg #[.int .i64 s.f0,.int .i64 s.f1,.int .i64 s.f2,.slice A s.f3.length n]] w fun e w'=>e=.returned (.bool (convF g s c).1)/\∃ p',Mem w0 w' F ((convF g s c).2.own bc (.slice gA g.length gc) bm p'++H)
theorem ownK_vS {w0 w:World} {F H:List Pc} {bc bm:Nat} {gv:Value} {c:Ks} {p:Kp} (M:Mem w0 w F (c.own bc gv bm p++H)):∃ A n,w.cell? ⟨bc,1,none⟩=some (.slice A c.pts.length n):=by
 obtain ⟨A,n,e,_⟩:=M.rowSlice' (k:=1) rfl
 have:=M.cell (k:=0) (j:=1) rfl rfl
 exact ⟨A,n,this.trans (congrArg some e)⟩
def kvisF (g:List (List Int)) (node label:Int) (kids:List S31) (c:Ks):Bool × Ks :=
 if node < 0∨(g.length:Int)<=node∨kids.length≠(g.getD node.toNat []).length∨label≠0 then (false,c)
 else
  let r:=visK g c.pts.length kids (c.emit ⟨0,node,[]⟩) []
  if r.1 then (true,r.2.1.land r.2.2) else (false,r.2.1)
set_option maxRecDepth 100000 in
set_option maxHeartbeats 4000000 in
theorem kvisits_any (w0:World) (bc:Nat) (gA:Option Addr) (gc:Nat) (bm:Nat) (g:List (List Int)) (hG:kG.C w0 gA g.length g) (hg:g.length<=1000000000) (kind node label:Int) (kids:List S31) (ih:∀ k∈kids,ConvOk w0 bc gA gc bm g k)
  (F:List Pc) (c:Ks) (p:Kp) (w:World) (A:Option Addr) (n m:Nat) (M:Mem w0 w F (c.own bc (.slice gA g.length gc) bm p)) (hok:c.Ok (3 * szL kids+2+m)) (hK:k31.C w0 A kids.length kids) (hn:kids.length<=n) :
  Calls Try.prog 72 #[.pointer (some ⟨bc,0,none⟩),.agg #[.int .i64 kind,.int .i64 node,.int .i64 label,.slice A kids.length n]] w fun e w'=>e=.returned (.bool (kvisF g node label kids c).1)/\∃ p',Mem w0 w' F ((kvisF g node label kids c).2.own bc (.slice gA g.length gc) bm p'):=by
 obtain ⟨b3,w1,z1,a1,M1⟩:=M.alloc (.cells #[.int .i64 kind,.int .i64 node,.int .i64 label,.slice A kids.length n] 31)
 obtain ⟨w2,z2,M2⟩:=M1.drew
 have e1:w2.cell? ⟨b3,1,none⟩=some (.int .i64 node):=M2.cell (k:=6) (j:=1) rfl rfl
 have e2:w2.cell? ⟨b3,2,none⟩=some (.int .i64 label):=M2.cell (k:=6) (j:=2) rfl rfl
 have e3:w2.cell? ⟨b3,3,none⟩=some (.slice A kids.length n):=M2.cell (k:=6) (j:=3) rfl rfl
 have k0:w2.cell? ⟨bc,0,none⟩=some (.slice gA g.length gc):=M2.cell (k:=0) (j:=0) rfl rfl
 have HG:=ak_ hG
 have HK:=ak_ hK
 have IH:=ak_ ih
 clear M M1 hG hK ih
 by_cases hbad:node < 0∨(g.length:Int)<=node∨kids.length≠(g.getD node.toNat []).length∨label≠0
 ·have HBD:=ak_ (show kvisF g node label kids c=(false,c) from if_pos hbad)
  have M3:=ak_ M2
  by_cases h1:node < 0
  ·clear M2 hbad
   go_enter Try.func72,Try.ntmps72
   go_wp2_with (first | (rw [z2]) | (refine wp_region_txt (fun _=>True) [] (by kernel_rfl) (by kernel_rfl) ?_) | (with_reducible refine wpT_nil ?_) | (refine wpT_W (v:=?_) trivial (by decide) (by first | exact wn_ rfl | rfl) (fun _ hS_=>?_) ?_;rotate_left;(focus ((try dsimp only at hS_);go_simp;rfl));(simp only [Act.put,sA_,sB_,sC_])) | (refine wpT_R (v:=?_) trivial (by decide) (by first | exact wn_ rfl | rfl) ?_ ?_;rotate_left;(focus (go_simp;rfl));(simp only [Act.put,sA_,sB_,sC_])) | (refine wpT_A (v:=?_) (ob:=?_) trivial (by decide) (by first | exact wn_ rfl | rfl) ?_ ?_ ?_;rotate_left 2;(focus (go_simp;first | (constructor <;> rfl) | rfl));(focus (exact trivial));(simp only [Act.put,sA_,sB_,sC_])) | (refine wpT_no trivial rfl (by decide) ?_;(simp only [Act.put,sA_,sB_,sC_])))
   go_ret
   rw [HBD.out]
   exact ⟨rfl,p,M3.out.lose (k:=6) rfl⟩
  by_cases h2:(g.length:Int)<=node
  ·clear M2 hbad
   have h2':node ≥ (g.length:Int):=h2
   go_enter Try.func72,Try.ntmps72
   go_wp2_with (first | (rw [z2]) | (refine wp_region_txt (fun _=>True) [] (by kernel_rfl) (by kernel_rfl) ?_) | (with_reducible refine wpT_nil ?_) | (refine wpT_W (v:=?_) trivial (by decide) (by first | exact wn_ rfl | rfl) (fun _ hS_=>?_) ?_;rotate_left;(focus ((try dsimp only at hS_);go_simp;rfl));(simp only [Act.put,sA_,sB_,sC_])) | (refine wpT_R (v:=?_) trivial (by decide) (by first | exact wn_ rfl | rfl) ?_ ?_;rotate_left;(focus (go_simp;rfl));(simp only [Act.put,sA_,sB_,sC_])) | (refine wpT_A (v:=?_) (ob:=?_) trivial (by decide) (by first | exact wn_ rfl | rfl) ?_ ?_ ?_;rotate_left 2;(focus (go_simp;first | (constructor <;> rfl) | rfl));(focus (exact trivial));(simp only [Act.put,sA_,sB_,sC_])) | (refine wpT_no trivial rfl (by decide) ?_;(simp only [Act.put,sA_,sB_,sC_])))
   go_ret
   rw [HBD.out]
   exact ⟨rfl,p,M3.out.lose (k:=6) rfl⟩
  obtain ⟨d,rfl⟩:∃ d:Nat,node=d:=⟨node.toNat,by omega⟩
  have hd:d < g.length:=by omega
  obtain ⟨ga,Ar,cr,e,j1,hcr,hr⟩:=C_row (Kd.C_below HG.out M2.hb) d hd
  subst e
  have hd':(d:Int) < g.length:=by omega
  simp only [Int.toNat_natCast] at hbad
  obtain ⟨l,hl⟩:∃ l,l=g.getD d []:=⟨_,rfl⟩
  rw [<-hl] at hbad j1 hcr hr
  have q0:¬ ((d:Int) < 0):=by omega
  have q1:¬ g.length<=d:=by omega
  clear hr hcr hl
  by_cases h3:kids.length=l.length
  ·have h4:label≠0:=by
    rcases hbad with h | h | h | h
    ·exact absurd h h1
    ·exact absurd h h2
    ·exact absurd h3 h
    ·exact h
   have h3s:=h3.symm
   have h4':(label != 0)=true:=by simpa using h4
   clear h3 h4
   clear M2 hbad h2 h1
   go_enter Try.func72,Try.ntmps72
   go_wp2_with (first | (rw [z2]) | (refine wp_region_txt (fun _=>True) [] (by kernel_rfl) (by kernel_rfl) ?_) | (with_reducible refine wpT_nil ?_) | (refine wpT_W (v:=?_) trivial (by decide) (by first | exact wn_ rfl | rfl) (fun _ hS_=>?_) ?_;rotate_left;(focus ((try dsimp only at hS_);go_simp;rfl));(simp only [Act.put,sA_,sB_,sC_])) | (refine wpT_R (v:=?_) trivial (by decide) (by first | exact wn_ rfl | rfl) ?_ ?_;rotate_left;(focus (go_simp;rfl));(simp only [Act.put,sA_,sB_,sC_])) | (refine wpT_A (v:=?_) (ob:=?_) trivial (by decide) (by first | exact wn_ rfl | rfl) ?_ ?_ ?_;rotate_left 2;(focus (go_simp;first | (constructor <;> rfl) | rfl));(focus (exact trivial));(simp only [Act.put,sA_,sB_,sC_])) | (refine wpT_no trivial rfl (by decide) ?_;(simp only [Act.put,sA_,sB_,sC_])))
   go_ret
   rw [HBD.out]
   exact ⟨rfl,p,M3.out.lose (k:=6) rfl⟩
  ·have h3s:((kids.length:Int) != (l.length:Int))=true:=bne_iff_ne.mpr (by omega)
   clear M2 hbad h2 h1
   go_enter Try.func72,Try.ntmps72
   go_wp2_with (first | (rw [z2]) | (refine wp_region_txt (fun _=>True) [] (by kernel_rfl) (by kernel_rfl) ?_) | (with_reducible refine wpT_nil ?_) | (refine wpT_W (v:=?_) trivial (by decide) (by first | exact wn_ rfl | rfl) (fun _ hS_=>?_) ?_;rotate_left;(focus ((try dsimp only at hS_);go_simp;rfl));(simp only [Act.put,sA_,sB_,sC_])) | (refine wpT_R (v:=?_) trivial (by decide) (by first | exact wn_ rfl | rfl) ?_ ?_;rotate_left;(focus (go_simp;rfl));(simp only [Act.put,sA_,sB_,sC_])) | (refine wpT_A (v:=?_) (ob:=?_) trivial (by decide) (by first | exact wn_ rfl | rfl) ?_ ?_ ?_;rotate_left 2;(focus (go_simp;first | (constructor <;> rfl) | rfl));(focus (exact trivial));(simp only [Act.put,sA_,sB_,sC_])) | (refine wpT_no trivial rfl (by decide) ?_;(simp only [Act.put,sA_,sB_,sC_])))
   go_ret
   rw [HBD.out]
   exact ⟨rfl,p,M3.out.lose (k:=6) rfl⟩
 ·have HGD:=ak_ (show kvisF g node label kids c=(if (visK g c.pts.length kids (c.emit ⟨0,node,[]⟩) []).1=true then (true,(visK g c.pts.length kids (c.emit ⟨0,node,[]⟩) []).2.1.land (visK g c.pts.length kids (c.emit ⟨0,node,[]⟩) []).2.2) else (false,(visK g c.pts.length kids (c.emit ⟨0,node,[]⟩) []).2.1)) from if_neg hbad)
  have hbad':0<=node/\node < (g.length:Int)/\kids.length=(g.getD node.toNat []).length/\label=0:=by
   refine ⟨?_,?_,?_,?_⟩
   ·exact Int.not_lt.1 (fun h=>hbad (.inl h))
   ·exact Int.not_le.1 (fun h=>hbad (.inr (.inl h)))
   ·exact Classical.byContradiction (fun h=>hbad (.inr (.inr (.inl h))))
   ·exact Classical.byContradiction (fun h=>hbad (.inr (.inr (.inr h))))
  obtain ⟨h1,h2,h3,rfl⟩:=hbad'
  obtain ⟨d,rfl⟩:∃ d:Nat,node=d:=⟨node.toNat,by omega⟩
  have hd:d < g.length:=by omega
  obtain ⟨ga,Ar,cr,e,j1,hcr,hr⟩:=C_row (Kd.C_below HG.out M2.hb) d hd
  subst e
  have hd':(d:Int) < g.length:=by omega
  simp only [Int.toNat_natCast] at h3
  obtain ⟨l,hl⟩:∃ l,l=g.getD d []:=⟨_,rfl⟩
  rw [<-hl] at h3 j1 hcr hr
  have q0:¬ ((d:Int) < 0):=by omega
  have q1:¬ g.length<=d:=by omega
  have h3s:=h3.symm
  have M3:Mem w0 w2 F (c.own bc (.slice (some ga) g.length gc) bm p++[.blk b3 (.cells #[.int .i64 kind,.int .i64 (d:Int),.int .i64 0,.slice A kids.length n] 31 (0,0))]):=M2
  have hst:=hok.st
  have hck:c.pts.length < 1000000000:=by simp only [big] at hst;omega
  have hbig:kids.length < 1000000000:=by have:=szL_len kids;simp only [big] at hst;omega
  obtain ⟨R,hR⟩:∃ R,R=visK g c.pts.length kids (c.emit ⟨0,d,[]⟩) []:=⟨_,rfl⟩
  rw [<-hR] at HGD
  have HR:=ak_ hR
  have M3:=ak_ M3
  have HOK:=ak_ hok
  clear M2 hbad h3 hr hcr hl hR hok hst h1 h2
  go_enter Try.func72,Try.ntmps72
  go_wp2_with (first
   | (go_at_call 51;refine (add0 bc _ c bm p 0 (d:Int) M3.out hck).mono ?_;rintro e w4 ⟨rfl,p4,M4⟩;have e3':w4.cell? ⟨b3,3,none⟩=some (.slice A kids.length n):=M4.cell (k:=6) (j:=3) rfl rfl;have M4:=ak_ M4)
   | (rw [z2]) | (refine wp_region_txt (fun _=>True) [] (by kernel_rfl) (by kernel_rfl) ?_) | (with_reducible refine wpT_nil ?_) | (refine wpT_W (v:=?_) trivial (by decide) (by first | exact wn_ rfl | rfl) (fun _ hS_=>?_) ?_;rotate_left;(focus ((try dsimp only at hS_);go_simp;rfl));(simp only [Act.put,sA_,sB_,sC_])) | (refine wpT_R (v:=?_) trivial (by decide) (by first | exact wn_ rfl | rfl) ?_ ?_;rotate_left;(focus (go_simp;rfl));(simp only [Act.put,sA_,sB_,sC_])) | (refine wpT_A (v:=?_) (ob:=?_) trivial (by decide) (by first | exact wn_ rfl | rfl) ?_ ?_ ?_;rotate_left 2;(focus (go_simp;first | (constructor <;> rfl) | rfl));(focus (exact trivial));(simp only [Act.put,sA_,sB_,sC_])) | (refine wpT_no trivial rfl (by decide) ?_;(simp only [Act.put,sA_,sB_,sC_])))
  clear e3' M3
  go_loopw [6,54] (fun v6 t wr=>∃ (i:Nat) (c':Ks) (p':Kp) (es:List Int),t=.int .i64 i/\i<=kids.length/\Aside0 (es.length=i)/\Aside0 (visK g c.pts.length (kids.drop i) c' es=R)/\Aside0 (c'.Ok (3 * szL (kids.drop i)+1+m))/\Aside0 (c.pts.length < c'.pts.length/\∀ e∈es,0<=e/\e < c'.pts.length) /\
   Aside0 (Mem w0 wr F (c'.own bc (.slice (some ga) g.length gc) bm p'++[.blk b3 (.cells #[.int .i64 kind,.int .i64 (d:Int),.int .i64 0,.slice A kids.length n] 31 (0,0)),.row v6 3 1 i (nums .i64 es)]))) (fun _ t _=>kids.length - (intOf t).toNat)
  case atStart =>
   refine ⟨0,_,p4,[],rfl,Nat.zero_le _,⟨rfl⟩,⟨HR.out.symm⟩,⟨?_⟩,⟨by simp [Ks.emit],by simp⟩,⟨?_⟩⟩
   ·have h1:=HOK.out
    have h2:=h1.st
    exact (h1.mono (m':=3 * szL kids+1+m) (by omega)).emit (by omega) _ (by simp;omega)
   ·exact M4.out.nilrow 3 1
  case round =>
   clear M4 HOK e1 e2 e3 k0 j1 q0 q1 h3s
   obtain ⟨i,c',p',es,rfl,hi,hE,hA,hO,hP,hM⟩:=hrel
   obtain ⟨A6,c6,e6,_⟩:=hM.out.rowSlice' (k:=7) rfl
   subst e6
   by_cases hlt:i < kids.length
   ·obtain ⟨k,hk⟩:∃ k,k=kids[i]:=⟨_,rfl⟩
    obtain ⟨ad,A3,c3,e,g0,g1,g2,g3,hc3,hC3⟩:=kid_at HK.out i hlt
    subst e
    rw [<-hk] at g0 g1 g2 g3 hc3 hC3
    have hA2:=hA.out
    have hO2:=hO.out
    rw [List.drop_eq_getElem_cons hlt,<-hk] at hA2 hO2
    rw [visK] at hA2
    simp only [szL] at hO2
    have hkm:k∈kids:=by rw [hk];exact List.getElem_mem hlt
    have hkpos:1<=szF k:=by rw [szF_eq];omega
    have IHK:=ak_ (IH.out k hkm)
    have h0:=pw_cell_below hM.out.hb g0
    have h1:=pw_cell_below hM.out.hb g1
    have h2:=pw_cell_below hM.out.hb g2
    have h3:=pw_cell_below hM.out.hb g3
    have HC3:=ak_ hC3
    have HO1:=ak_ (Ks.Ok.addTo (m:=3 * szF k - 1+(3 * szL (kids.drop (i+1))+1+m)) (hO2.mono (by omega)) c.pts.length c'.pts.length)
    have hpl:c'.pts.length < 1000000000:=by have h8:=hO2.st;simp only [big] at h8;omega
    obtain ⟨vS,vF,ts,bs⟩:=p'
    obtain ⟨b8,w5,z5,a5,M5⟩:=hM.out.alloc (.cells #[.int .i64 0,.int .i64 0,.int .i64 0,.slice none 0 0] 31)
    obtain ⟨y1,y2,y3,y4,ys,yc,yf,M6⟩:=M5.fill4 (k:=8) rfl (.int .i64 k.f0) (.int .i64 k.f1) (.int .i64 k.f2) (.slice A3 k.f3.length c3)
    obtain ⟨w7,z7,M7⟩:=M6.drew
    obtain ⟨bS,cS,e,hcS,hcell⟩:=M7.rowForm (k:=1) rfl (by have:=hP.out.1;omega)
    dsimp only at e
    subst e
    have hts:ts.length=c'.pts.length:=by have:=(M7.rows (k:=2) rfl).len;simpa using this
    obtain ⟨tt,htt⟩:∃ tt,tt=(c'.pts.map Stp.tos).getD c.pts.length []:=⟨_,rfl⟩
    obtain ⟨Av,nv,hv⟩:∃ A0 q0,ts.getD c.pts.length nilS=.slice A0 tt.length q0:=by
     have:=(M7.rows (k:=2) rfl).row c.pts.length (by show c.pts.length < ts.length;rw [hts];exact hP.out.1)
     rw [<-htt] at this
     exact own_slice this
    have htl:tt.length < 1000000000:=by
     have h7:tt=(c'.pts[c.pts.length]'hP.out.1).tos:=by rw [htt];simp [List.getD_eq_getElem?_getD,hP.out.1]
     have h8:=hO2.tl (c'.pts[c.pts.length]'hP.out.1) (List.getElem_mem _)
     rw [h7];simp only [big] at h8;omega
    have hrec:(recs (c'.pts.map Stp.cells) ts)[c.pts.length * 3+2]?=some (.slice Av tt.length nv):=by
     have:=step_cell hts hP.out.1 (j:=2) (by omega)
     rw [this]
     have h9:((c'.pts.map Stp.cells).getD c.pts.length []).length=2:=by simp [List.getD_eq_getElem?_getD,hP.out.1,Stp.cells]
     rw [List.getElem?_append_right (by omega),h9,hv];rfl
    have r2:w7.cell? ⟨bS,c.pts.length * 3+2,none⟩=some (.slice Av tt.length nv):=hcell _ _ hrec
    have k1d:w7.cell? ⟨bc,1,none⟩=some (.slice (some ⟨bS,0,none⟩) c'.pts.length cS):=M7.cell (k:=0) (j:=1) rfl rfl
    have hNl:(c.pts.length:Int) < c'.pts.length:=by have:=hP.out.1;omega
    have HREC:=ak_ hrec
    have HV:=ak_ hv
    have HT:=ak_ htt
    have HTS:=ak_ hts
    have M7:=ak_ M7
    have HA:=ak_ hA2
    have HO:=ak_ hO2
    have HLT:=ak_ hlt
    have hlt':(i:Int) < kids.length:=by omega
    obtain ⟨ys1,ys2,ys3,ys4⟩:=ys
    obtain ⟨yc1,yc2,yc3,yc4⟩:=yc
    obtain ⟨yf1,yf2,yf3,yf4⟩:=yf
    clear hA hO hA2 hO2 hkm hC3 g0 g1 g2 g3 hk M5 M6 hcell hrec hv htt hts hM hkpos hcS
    go_wp2_with (first | (rw [z7]) | (refine wp_region_txt (fun W=>W.cell? ⟨bc,1,none⟩=some (.slice (some ⟨bS,0,none⟩) c'.pts.length cS)) [3] (by kernel_rfl) (by kernel_rfl) ?_))
    clear ys1 ys2 ys3 ys4 yc1 yc2 yc3 yc4 yf1 yf2 yf3 yf4 z5 a5 h0 h1 h2 h3
    iterate 19 ((first | (with_reducible refine wpT_nil ?_) | (refine wpT_W (v:=?_) (by assumption) (by decide) (wn_ rfl) (fun _ hS_=>?_) ?_;rotate_left;(focus ((try dsimp only at hS_);go_simp;rfl))) | (refine wpT_R (v:=?_) (by assumption) (by decide) (wn_ rfl) ?_ ?_;rotate_left;(focus (go_simp;rfl))) | (refine wpT_A (v:=?_) (ob:=?_) (by assumption) (by decide) (wn_ rfl) ?_ ?_ ?_;rotate_left 2;(focus (go_simp;first | (constructor <;> rfl) | rfl));(focus (apply cell_alloc;assumption))));(try simp only [Act.put,sA_,sB_,sC_]))
    refine wpT_L (cell_alloc _ k1d) (by decide) (wn_ rfl) (fun K_ hK_=>?_)
    refine step_mem_at (ops:=#[]) 2 c.pts.length rfl (.tmp 70) (.tmp 76) rfl Try.underlying23 PShapeReducible.info3 ts (c'.pts.map Stp.tos) (c'.pts.length:Int) (by rw [HV.out];rfl) rfl M7.out rfl (by simpa using hP.out.1) (by rw [<-HT.out];exact htl) ?_
    intro A12 c12 w12 M12
    rw [<-HT.out] at M12 ⊢
    have k2e:w12.cell? ⟨bc,1,none⟩=some (.slice (some ⟨bS,0,none⟩) c'.pts.length cS):=M12.cell (k:=0) (j:=1) rfl rfl
    refine hK_ _ _ k2e ?_
    clear hK_
    obtain ⟨w13,s13,M13⟩:=M12.rowPut (k:=1) (c.pts.length * 3+2) rfl (.slice A12 (tt.length+1) c12)
    have r4:w12.cell? ⟨bS,c.pts.length * 3+2,none⟩=some (.slice Av tt.length nv):=by
     obtain ⟨bF',cF',e,_,hc⟩:=M12.rowForm (k:=1) rfl (by have:=hP.out.1;omega)
     simp only [Value.slice.injEq,Option.some.injEq,Addr.mk.injEq,and_true,true_and] at e
     obtain ⟨rfl,rfl⟩:=e
     exact hc _ _ HREC.out
    have r5:=(M12.row (k:=1) rfl).frozenAt (c.pts.length * 3+2)
    have k2f:w13.cell? ⟨bc,1,none⟩=some (.slice (some ⟨bS,0,none⟩) c'.pts.length cS):=M13.cell (k:=0) (j:=1) rfl rfl
    have f0:w13.cell? ⟨b8,0,none⟩=some (.int .i64 k.f0):=M13.cell (k:=8) (j:=0) rfl rfl
    have f1:w13.cell? ⟨b8,1,none⟩=some (.int .i64 k.f1):=M13.cell (k:=8) (j:=1) rfl rfl
    have f2:w13.cell? ⟨b8,2,none⟩=some (.int .i64 k.f2):=M13.cell (k:=8) (j:=2) rfl rfl
    have f3:w13.cell? ⟨b8,3,none⟩=some (.slice A3 k.f3.length c3):=M13.cell (k:=8) (j:=3) rfl rfl
    have M14:Mem w0 w13 F ((c'.addTo c.pts.length c'.pts.length).own bc (.slice (some ga) g.length gc) bm ⟨.slice (some ⟨bS,0,none⟩) c'.pts.length cS,vF,ts.set c.pts.length (.slice A12 (tt.length+1) c12),bs⟩++[.blk b3 (.cells #[.int .i64 kind,.int .i64 (d:Int),.int .i64 0,.slice (some ad) kids.length n] 31 (0,0)),.row (.slice A6 i c6) 3 1 i (nums .i64 es),.blk b8 (.cells #[.int .i64 k.f0,.int .i64 k.f1,.int .i64 k.f2,.slice A3 k.f3.length c3] 31 (0,0))]):=by
     have hr2:(recs (c'.pts.map Stp.cells) ts).set (c.pts.length * 3+2) (.slice A12 (tt.length+1) c12)=recs (c'.pts.map Stp.cells) (ts.set c.pts.length (.slice A12 (tt.length+1) c12)):=recs_set (m:=2) (by simp [HTS.out]) (by simp [Stp.cells]) (by simpa using hP.out.1) _
     unfold Ks.own Ks.addTo
     simp only [addTos_cells,addTos_tos,addTos_length]
     rw [<-hr2,<-HT.out]
     exact M13
    have M14:=ak_ M14
    clear M12 M13
    iterate 2 ((first | (with_reducible refine wpT_nil ?_) | (refine wpT_W (v:=?_) (by assumption) (by decide) (wn_ rfl) (fun _ hS_=>?_) ?_;rotate_left;(focus ((try dsimp only at hS_);go_simp;rfl))) | (refine wpT_R (v:=?_) (by assumption) (by decide) (wn_ rfl) ?_ ?_;rotate_left;(focus (go_simp;rfl))) | (refine wpT_A (v:=?_) (ob:=?_) (by assumption) (by decide) (wn_ rfl) ?_ ?_ ?_;rotate_left 2;(focus (go_simp;first | (constructor <;> rfl) | rfl));(focus (apply cell_alloc;assumption))));(try simp only [Act.put,sA_,sB_,sC_]))
    refine wpT_L k2e (by decide) (wn_ rfl) (fun K_ hK_=>?_)
    go_simp
    refine hK_ _ _ k2f ?_
    clear hK_
    refine wpT_nil ?_
    clear k1d r2 k2e r4 r5 s13 z7 k2f
    have h9:=ak_ (convF_ok g (3 * szL (kids.drop (i+1))+1+m) k (c'.addTo c.pts.length c'.pts.length) HO1.out)
    cases hcv:(convF g k (c'.addTo c.pts.length c'.pts.length)).1 with
    | false =>
     have HB:=ak_ (show (false,(convF g k (c'.addTo c.pts.length c'.pts.length)).2,es)=R by have:=HA.out;simpa [hcv] using this)
     have HCV:=ak_ hcv
     clear hcv
     go_wp2_with (first
      | (go_at_call 50;refine (IHK.out F _ _ _ w13 A3 c3 (3 * szL (kids.drop (i+1))+1+m) M14.out HO1.out HC3.out hc3).mono ?_;rintro e w15 ⟨rfl,p15,M15⟩;rw [HCV.out];have M15:=ak_ M15))
     go_ret
     rw [HGD.out,<-HB.out]
     exact ⟨rfl,p15,((M15.out.lose (k:=8) rfl).lose (k:=7) rfl).lose (k:=6) rfl⟩
    | true =>
     have HB:=ak_ (show visK g c.pts.length (kids.drop (i+1)) ((convF g k (c'.addTo c.pts.length c'.pts.length)).2.emit ⟨1,0,[]⟩) (es++[((convF g k (c'.addTo c.pts.length c'.pts.length)).2.pts.length:Int)])=R by have:=HA.out;simpa [hcv] using this)
     have HCV:=ak_ hcv
     obtain ⟨c2,hc2⟩:∃ c2,c2=(convF g k (c'.addTo c.pts.length c'.pts.length)).2:=⟨_,rfl⟩
     rw [<-hc2] at HB h9
     have HC2:=ak_ hc2
     have hpl2:c2.pts.length < 1000000000:=by have h8:=h9.out.2.1;simp only [big] at h8;omega
     clear hcv hc2
     go_wp2_with (first
      | (go_at_call 50;refine (IHK.out F _ _ _ w13 A3 c3 (3 * szL (kids.drop (i+1))+1+m) M14.out HO1.out HC3.out hc3).mono ?_;rintro e w15 ⟨rfl,p15,M15⟩;rw [HCV.out];rw [<-HC2.out] at M15;have M15:=ak_ M15)
      | (go_at_call 51;refine (add0 bc _ c2 bm p15 1 0 M15.out hpl2).mono ?_;rintro e w16 ⟨rfl,p16,M16⟩;have M16:=ak_ M16)
      | ((with_reducible refine gate_dst (N:=89) rfl ?_);refine mem_append 7 (.tmp 84) (.tmp 88) 23 3 (.int .i64 0) 1 8 rfl rfl Try.underlying23 PShapeReducible.info3 rfl (by decide) (by decide) _ i (nums .i64 es) [.int .i64 (c2.pts.length:Int)] rfl rfl rfl (by simp [Value.oneCell']) M16.out rfl (by omega) ?_;intro A17 c17 w17 M17;have M17:=ak_ M17))
     go_roundw
     case rel =>
      refine ⟨i+1,c2.emit ⟨1,0,[]⟩,p16,es++[(c2.pts.length:Int)],by go_num,by have:=HLT.out;omega,⟨by simp [hE.out]⟩,HB,⟨?_⟩,⟨?_,?_⟩,⟨?_⟩⟩
      ·exact h9.out.1.emit (by have:=h9.out.2.1;omega) _ (by have:=h9.out.2.1;simp;omega)
      ·have:=hP.out.1;have h8:=h9.out.2.2.2.1;simp [Ks.addTo,addTos_length] at h8;simp [Ks.emit];omega
      ·intro e he
       have h8:=h9.out.2.2.2.1
       simp only [Ks.addTo,addTos_length] at h8
       simp only [Ks.emit,List.length_append,List.length_singleton]
       rcases List.mem_append.1 he with he | he
       ·have:=hP.out.2 e he;omega
       ·rw [List.mem_singleton.1 he];omega
      ·rw [nums_append]
       exact M17.out.lose (k:=8) rfl
     case measure=>have:=HLT.out;simp [intOf];omega
   ·obtain rfl:i=kids.length:=by omega
    have hA2:=hA.out
    rw [List.drop_length,visK] at hA2
    have HRE:=ak_ hA2
    have HEL:=ak_ (show es.length=kids.length from hE.out)
    have hlt':¬ ((kids.length:Int) < (kids.length:Int)):=by omega
    clear HR hlt hi HK IH hA2 hE
    obtain ⟨cZ,hcZ⟩:∃ cZ,cZ=c'.land es:=⟨_,rfl⟩
    have HZ:=ak_ hcZ
    clear hcZ
    go_wp2
    go_loopw [93] (fun t wr=>∃ (i:Nat) (c'':Ks) (p'':Kp),t=.int .i64 i/\i<=kids.length/\Aside0 (c''.land (es.drop i)=cZ)/\Aside0 (∀ e∈es,0<=e/\e < c''.pts.length)/\Aside0 (c''.pts.length<=1000000000) /\
     Aside0 (Mem w0 wr F (c''.own bc (.slice (some ga) g.length gc) bm p''++[.blk b3 (.cells #[.int .i64 kind,.int .i64 (d:Int),.int .i64 0,.slice A kids.length n] 31 (0,0)),.row (.slice A6 kids.length c6) 3 1 kids.length (nums .i64 es)]))) (fun t _=>kids.length - (intOf t).toNat)
    case atStart=>exact ⟨0,_,_,rfl,Nat.zero_le _,⟨HZ.out.symm⟩,⟨hP.out.2⟩,⟨by have h8:=hO.out.st;simp only [big] at h8;omega⟩,hM⟩
    case round =>
     clear hM hO hP
     obtain ⟨i,c2,p2,rfl,hi,hA,hE,hS,hM⟩:=hrel
     by_cases hlt:i < kids.length
     ·obtain ⟨b6,c6',e9,j2⟩:=hM.out.rowNum (k:=7) (i:=i) rfl HEL.out.symm (by have:=HEL.out;omega)
      simp only [Value.slice.injEq] at e9
      obtain ⟨rfl,hx9,rfl⟩:=e9
      clear hx9
      have hbi:es.getD i 0∈es:=by rw [List.getD_eq_getElem?_getD,List.getElem?_eq_getElem (by have:=HEL.out;omega)];exact List.getElem_mem _
      obtain ⟨q,hq⟩:∃ q:Nat,es.getD i 0=q:=⟨(es.getD i 0).toNat,by have:=(hE.out _ hbi).1;omega⟩
      have hql:q < c2.pts.length:=by have:=(hE.out _ hbi).2;omega
      have hA2:=hA.out
      rw [List.drop_eq_getElem_cons (by have:=HEL.out;omega),Ks.land,show es[i]'(by have:=HEL.out;omega)=(q:Int) by rw [<-hq,List.getD_eq_getElem?_getD,List.getElem?_eq_getElem (by have:=HEL.out;omega)];rfl,Int.toNat_natCast] at hA2
      have HA:=ak_ hA2
      rw [hq] at j2
      obtain ⟨w7,z7,M7⟩:=hM.out.drew
      obtain ⟨n8,w8,z8,a8,M8⟩:=M7.one (c2.pts.length:Int)
      have M8':=(M8.order [0,1,2,3,4,5,8,6,7] rfl)
      obtain ⟨bS,cS,w9,k1,s9,⟨u9',t9⟩,f9,M9⟩:=Mem.setToK (n:=q) (xs:=[(c2.pts.length:Int)]) (H:=[.blk b3 (.cells #[.int .i64 kind,.int .i64 (d:Int),.int .i64 0,.slice A kids.length n] 31 (0,0)),.row _ 3 1 kids.length (nums .i64 es)]) M8' hql
      have M9:=ak_ M9
      have k2:w7.cell? ⟨bc,1,none⟩=some (.slice (some ⟨bS,0,none⟩) c2.pts.length cS):=by
       obtain ⟨A,nn,e⟩:=ownK_vS M7
       have h1:=pw_cell_below (below_alloc (Below.refl _ _) (.cells #[.int .i64 (c2.pts.length:Int)] 3)) e
       rw [a8,k1] at h1
       rw [e,<-h1]
      have hlt':(i:Int) < kids.length:=by omega
      have hql':(q:Int) < c2.pts.length:=by omega
      have HLT:=ak_ hlt
      clear hA hA2 hM hbi hq hql M7 M8 M8'
      have A8:=ak_ (And.intro a8 z8)
      clear a8 z8
      go_wp2_with (first | (rw [z7]) | (refine wp_region_txt (fun _=>True) [] (by kernel_rfl) (by kernel_rfl) ?_))
      iterate 11 ((first | (with_reducible refine wpT_nil ?_) | (refine wpT_W (v:=?_) trivial (by decide) (wn_ rfl) (fun _ hS_=>?_) ?_;rotate_left;(focus ((try dsimp only at hS_);go_simp;rfl))) | (refine wpT_R (v:=?_) trivial (by decide) (wn_ rfl) ?_ ?_;rotate_left;(focus (go_simp;rfl))) | (refine wpT_A (v:=?_) (ob:=?_) trivial (by decide) (wn_ rfl) ?_ ?_ ?_;rotate_left 2;(focus (go_simp;first | (constructor <;> rfl) | rfl));(focus (exact trivial))));(try simp only [Act.put,sA_,sB_,sC_]))
      rw [A8.out.1,A8.out.2]
      iterate 2 ((first | (with_reducible refine wpT_nil ?_) | (refine wpT_W (v:=?_) trivial (by decide) (wn_ rfl) (fun _ hS_=>?_) ?_;rotate_left;(focus ((try dsimp only at hS_);go_simp;rfl))) | (refine wpT_R (v:=?_) trivial (by decide) (wn_ rfl) ?_ ?_;rotate_left;(focus (go_simp;rfl))) | (refine wpT_A (v:=?_) (ob:=?_) trivial (by decide) (wn_ rfl) ?_ ?_ ?_;rotate_left 2;(focus (go_simp;first | (constructor <;> rfl) | rfl));(focus (exact trivial))));(try simp only [Act.put,sA_,sB_,sC_]))
      (refine wpT_L trivial (by decide) (wn_ rfl) (fun K_ hK_=>?_);go_simp;refine hK_ _ _ trivial ?_;clear hK_)
      refine wpT_nil ?_
      clear k1 k2 j2 s9 t9 f9 z7
      go_wp2
      go_roundw
      case rel=>exact ⟨i+1,_,_,by go_num,by have:=HLT.out;omega,HA,⟨by simpa [Ks.setTo,setTos_length] using hE.out⟩,⟨by simpa [Ks.setTo,setTos_length] using hS.out⟩,M9⟩
      case measure=>have:=HLT.out;simp [intOf];omega
     ·obtain rfl:i=kids.length:=by omega
      have hA2:=hA.out
      rw [List.drop_eq_nil_of_le (by have:=HEL.out;omega),Ks.land] at hA2
      have HA:=ak_ hA2
      clear hA hA2
      go_wp2
      go_ret
      rw [HGD.out,<-HRE.out]
      refine ⟨rfl,p2,?_⟩
      have h1:=(hM.out.lose (k:=7) rfl).lose (k:=6) rfl
      rw [HA.out,HZ.out] at h1
      exact h1
def kencF (g:List (List Int)) (kind node label:Int) (kids:List S31) (c:Ks):Bool × Ks :=
 if kids.length≠1∨node≠0∨label < 0∨((mget c.lab label).getD false)=true then (false,c)
 else
  let r:=convL g kids (c.begin label (decide (kind=3)))
  if r.1 then (true,r.2.close (decide (kind=3)) c.pts.length) else (false,r.2)
theorem kencF_one (g:List (List Int)) (kind label:Int) (k:S31) (c:Ks) (h:¬ (([k]:List S31).length≠1∨(0:Int)≠0∨label < 0∨((mget c.lab label).getD false)=true)) (lp:Bool) (hl:lp=decide (kind=3)) :
  kencF g kind 0 label [k] c=if (convF g k (c.begin label lp)).1=true then (true,(convF g k (c.begin label lp)).2.close lp c.pts.length) else (false,(convF g k (c.begin label lp)).2):=by
 subst hl
 unfold kencF
 rw [if_neg h]
 simp only [convL]
 by_cases hc:(convF g k (c.begin label (decide (kind=3)))).1=true
 ·simp [hc]
 ·simp [hc]
set_option maxRecDepth 100000 in
set_option maxHeartbeats 4000000 in
theorem kenc_any (w0:World) (bc:Nat) (gA:Option Addr) (gc:Nat) (bm:Nat) (g:List (List Int)) (kind node label:Int) (kids:List S31) (ih:∀ k∈kids,ConvOk w0 bc gA gc bm g k)
  (F:List Pc) (c:Ks) (p:Kp) (w:World) (A:Option Addr) (n m:Nat) (M:Mem w0 w F (c.own bc (.slice gA g.length gc) bm p)) (hok:c.Ok (3 * szL kids+2+m)) (hK:k31.C w0 A kids.length kids) :
  Calls Try.prog 73 #[.pointer (some ⟨bc,0,none⟩),.agg #[.int .i64 kind,.int .i64 node,.int .i64 label,.slice A kids.length n]] w fun e w'=>e=.returned (.bool (kencF g kind node label kids c).1)/\∃ p',Mem w0 w' F ((kencF g kind node label kids c).2.own bc (.slice gA g.length gc) bm p'):=by
 obtain ⟨vS,vF,ts,bs⟩:=p
 obtain ⟨AS,nS,e,_⟩:=M.rowSlice' (k:=1) rfl
 dsimp only at e
 subst e
 obtain ⟨AF,nF,e,_⟩:=M.rowSlice' (k:=3) rfl
 dsimp only at e
 subst e
 obtain ⟨b3,w1,z1,a1,M1⟩:=M.alloc (.cells #[.int .i64 kind,.int .i64 node,.int .i64 label,.slice A kids.length n] 31)
 obtain ⟨w2,z2,M2⟩:=M1.drew
 have e0:w2.cell? ⟨b3,0,none⟩=some (.int .i64 kind):=M2.cell (k:=6) (j:=0) rfl rfl
 have e1:w2.cell? ⟨b3,1,none⟩=some (.int .i64 node):=M2.cell (k:=6) (j:=1) rfl rfl
 have e2:w2.cell? ⟨b3,2,none⟩=some (.int .i64 label):=M2.cell (k:=6) (j:=2) rfl rfl
 have e3:w2.cell? ⟨b3,3,none⟩=some (.slice A kids.length n):=M2.cell (k:=6) (j:=3) rfl rfl
 have k3:w2.cell? ⟨bc,3,none⟩=some (.map (some bm)):=M2.cell (k:=0) (j:=3) rfl rfl
 have L1:=look_B (M2.blk (k:=5) rfl) label
 obtain ⟨lb,hlb⟩:∃ lb,lb=mB0 c.lab label:=⟨_,rfl⟩
 rw [<-hlb] at L1
 have M2:=ak_ (show Mem w0 w2 F (c.own bc (.slice gA g.length gc) bm ⟨.slice AS c.pts.length nS,.slice AF c.opn.length nF,ts,bs⟩++[.blk b3 (.cells #[.int .i64 kind,.int .i64 node,.int .i64 label,.slice A kids.length n] 31 (0,0))]) from M2)
 have HK:=ak_ hK
 have IH:=ak_ ih
 have HOK:=ak_ hok
 have HLB:=ak_ hlb
 obtain ⟨lp,hlp⟩:∃ lp,lp=decide (kind=3):=⟨_,rfl⟩
 have hlp':(kind == 3)=lp:=by rw [hlp];exact Bool.beq_eq_decide_eq _ _
 have HLP:=ak_ hlp
 clear M hK ih hok hlp M1 hlb
 by_cases hbad:kids.length≠1∨node≠0∨label < 0∨((mget c.lab label).getD false)=true
 ·have HBD:=ak_ (show kencF g kind node label kids c=(false,c) from if_pos hbad)
  by_cases h1:kids.length=1
  ·have h1':((kids.length:Int) != 1)=false:=by simp [h1]
   by_cases h2:node=0
   ·have h2':(node != 0)=false:=by simp [h2]
    by_cases h3:label < 0
    ·clear hbad h1 h2
     go_enter Try.func73,Try.ntmps73
     go_wp2_with (first | (rw [z2]) | (refine wp_region_txt (fun _=>True) [] (by kernel_rfl) (by kernel_rfl) ?_) | (with_reducible refine wpT_nil ?_) | (refine wpT_W (v:=?_) trivial (by decide) (by first | exact wn_ rfl | rfl) (fun _ hS_=>?_) ?_;rotate_left;(focus ((try dsimp only at hS_);go_simp;rfl));(simp only [Act.put,sA_,sB_,sC_])) | (refine wpT_R (v:=?_) trivial (by decide) (by first | exact wn_ rfl | rfl) ?_ ?_;rotate_left;(focus (go_simp;rfl));(simp only [Act.put,sA_,sB_,sC_])) | (refine wpT_A (v:=?_) (ob:=?_) trivial (by decide) (by first | exact wn_ rfl | rfl) ?_ ?_ ?_;rotate_left 2;(focus (go_simp;first | (constructor <;> rfl) | rfl));(focus (exact trivial));(simp only [Act.put,sA_,sB_,sC_])) | (refine wpT_no trivial rfl (by decide) ?_;(simp only [Act.put,sA_,sB_,sC_])))
     go_ret
     rw [HBD.out]
     exact ⟨rfl,_,M2.out.lose (k:=6) rfl⟩
    ·have h4:lb=true:=by
      rw [HLB.out]
      rcases hbad with h | h | h | h
      ·exact absurd h1 h
      ·exact absurd h2 h
      ·exact absurd h h3
      ·exact h
     subst h4
     clear hbad h1 h2
     go_enter Try.func73,Try.ntmps73
     go_wp2_with (first | (rw [z2]) | (refine wp_region_txt (fun _=>True) [] (by kernel_rfl) (by kernel_rfl) ?_) | (with_reducible refine wpT_nil ?_) | (refine wpT_W (v:=?_) trivial (by decide) (by first | exact wn_ rfl | rfl) (fun _ hS_=>?_) ?_;rotate_left;(focus ((try dsimp only at hS_);go_simp;rfl));(simp only [Act.put,sA_,sB_,sC_])) | (refine wpT_R (v:=?_) trivial (by decide) (by first | exact wn_ rfl | rfl) ?_ ?_;rotate_left;(focus (go_simp;rfl));(simp only [Act.put,sA_,sB_,sC_])) | (refine wpT_A (v:=?_) (ob:=?_) trivial (by decide) (by first | exact wn_ rfl | rfl) ?_ ?_ ?_;rotate_left 2;(focus (go_simp;first | (constructor <;> rfl) | rfl));(focus (exact trivial));(simp only [Act.put,sA_,sB_,sC_])) | (refine wpT_no trivial rfl (by decide) ?_;(simp only [Act.put,sA_,sB_,sC_])))
     go_ret
     rw [HBD.out]
     exact ⟨rfl,_,M2.out.lose (k:=6) rfl⟩
   ·have h2':(node != 0)=true:=by simpa using h2
    clear hbad h1 h2
    go_enter Try.func73,Try.ntmps73
    go_wp2_with (first | (rw [z2]) | (refine wp_region_txt (fun _=>True) [] (by kernel_rfl) (by kernel_rfl) ?_) | (with_reducible refine wpT_nil ?_) | (refine wpT_W (v:=?_) trivial (by decide) (by first | exact wn_ rfl | rfl) (fun _ hS_=>?_) ?_;rotate_left;(focus ((try dsimp only at hS_);go_simp;rfl));(simp only [Act.put,sA_,sB_,sC_])) | (refine wpT_R (v:=?_) trivial (by decide) (by first | exact wn_ rfl | rfl) ?_ ?_;rotate_left;(focus (go_simp;rfl));(simp only [Act.put,sA_,sB_,sC_])) | (refine wpT_A (v:=?_) (ob:=?_) trivial (by decide) (by first | exact wn_ rfl | rfl) ?_ ?_ ?_;rotate_left 2;(focus (go_simp;first | (constructor <;> rfl) | rfl));(focus (exact trivial));(simp only [Act.put,sA_,sB_,sC_])) | (refine wpT_no trivial rfl (by decide) ?_;(simp only [Act.put,sA_,sB_,sC_])))
    go_ret
    rw [HBD.out]
    exact ⟨rfl,_,M2.out.lose (k:=6) rfl⟩
  ·have h1':((kids.length:Int) != 1)=true:=bne_iff_ne.mpr (by omega)
   clear hbad h1
   go_enter Try.func73,Try.ntmps73
   go_wp2_with (first | (rw [z2]) | (refine wp_region_txt (fun _=>True) [] (by kernel_rfl) (by kernel_rfl) ?_) | (with_reducible refine wpT_nil ?_) | (refine wpT_W (v:=?_) trivial (by decide) (by first | exact wn_ rfl | rfl) (fun _ hS_=>?_) ?_;rotate_left;(focus ((try dsimp only at hS_);go_simp;rfl));(simp only [Act.put,sA_,sB_,sC_])) | (refine wpT_R (v:=?_) trivial (by decide) (by first | exact wn_ rfl | rfl) ?_ ?_;rotate_left;(focus (go_simp;rfl));(simp only [Act.put,sA_,sB_,sC_])) | (refine wpT_A (v:=?_) (ob:=?_) trivial (by decide) (by first | exact wn_ rfl | rfl) ?_ ?_ ?_;rotate_left 2;(focus (go_simp;first | (constructor <;> rfl) | rfl));(focus (exact trivial));(simp only [Act.put,sA_,sB_,sC_])) | (refine wpT_no trivial rfl (by decide) ?_;(simp only [Act.put,sA_,sB_,sC_])))
   go_ret
   rw [HBD.out]
   exact ⟨rfl,_,M2.out.lose (k:=6) rfl⟩
 have hgood:kids.length=1/\node=0/\¬ label < 0/\lb=false:=by
  refine ⟨?_,?_,fun h=>hbad (.inr (.inr (.inl h))),?_⟩
  ·exact Classical.byContradiction (fun h=>hbad (.inl h))
  ·exact Classical.byContradiction (fun h=>hbad (.inr (.inl h)))
  ·rw [HLB.out]
   cases h:mB0 c.lab label with
   | false=>rfl
   | true=>exact absurd (.inr (.inr (.inr h))) hbad
 obtain ⟨h1,rfl,h3,rfl⟩:=hgood
 obtain ⟨k,hk⟩:∃ k,kids=[k]:=List.length_eq_one_iff.1 h1
 have HKK:=ak_ hk
 have HGD:=ak_ (show kencF g kind 0 label kids c=if (convF g k (c.begin label lp)).1=true then (true,(convF g k (c.begin label lp)).2.close lp c.pts.length) else (false,(convF g k (c.begin label lp)).2) by rw [hk] at hbad ⊢;exact kencF_one g kind label k c hbad lp HLP.out)
 have h1':((kids.length:Int) != 1)=false:=by simp [h1]
 have hkl:(kids.length:Int)=1:=by omega
 have HL1:=ak_ h1
 obtain ⟨w4,z4,M4⟩:=M2.out.drew
 have k3d:w4.cell? ⟨bc,3,none⟩=some (.map (some bm)):=M4.cell (k:=0) (j:=3) rfl rfl
 have e2d:w4.cell? ⟨b3,2,none⟩=some (.int .i64 label):=M4.cell (k:=6) (j:=2) rfl rfl
 obtain ⟨w5,p5,M5⟩:=M4.putB (k:=5) rfl label true
 have e0d:w5.cell? ⟨b3,0,none⟩=some (.int .i64 kind):=M5.cell (k:=6) (j:=0) rfl rfl
 have k1d:w5.cell? ⟨bc,1,none⟩=some (.slice AS c.pts.length nS):=M5.cell (k:=0) (j:=1) rfl rfl
 obtain ⟨w7,z7,M7⟩:=M5.drew
 have k2:w7.cell? ⟨bc,2,none⟩=some (.slice AF c.opn.length nF):=M7.cell (k:=0) (j:=2) rfl rfl
 have e2f:w7.cell? ⟨b3,2,none⟩=some (.int .i64 label):=M7.cell (k:=6) (j:=2) rfl rfl
 have M7:=ak_ M7
 clear hbad h1 hk M4 M5
 go_enter Try.func73,Try.ntmps73
 go_wp2_with (first | (rw [z2]) | (rw [z4]) | (refine wp_region_txt (fun _=>True) [] (by kernel_rfl) (by kernel_rfl) ?_) | (with_reducible refine wpT_nil ?_) | (refine wpT_W (v:=?_) trivial (by decide) (by first | exact wn_ rfl | rfl) (fun _ hS_=>?_) ?_;rotate_left;(focus ((try dsimp only at hS_);go_simp;rfl));(simp only [Act.put,sA_,sB_,sC_])) | (refine wpT_R (v:=?_) trivial (by decide) (by first | exact wn_ rfl | rfl) ?_ ?_;rotate_left;(focus (go_simp;rfl));(simp only [Act.put,sA_,sB_,sC_])) | (refine wpT_A (v:=?_) (ob:=?_) trivial (by decide) (by first | exact wn_ rfl | rfl) ?_ ?_ ?_;rotate_left 2;(focus (go_simp;first | (constructor <;> rfl) | rfl));(focus (exact trivial));(simp only [Act.put,sA_,sB_,sC_])) | (refine wpT_no trivial rfl (by decide) ?_;(simp only [Act.put,sA_,sB_,sC_])))
 (refine wpT_L trivial (by decide) (wn_ rfl) (fun K_ hK_=>?_);go_simp;refine hK_ _ _ trivial ?_;clear hK_)
 refine wpT_nil ?_
 clear z4 k3d e2d p5 L1 k3 z2 e0 e1 e2 e3
 go_wp2_with (first | (rw [z7]) | (refine wp_region_txt (fun _=>True) [] (by kernel_rfl) (by kernel_rfl) ?_))
 iterate 11 ((first | (with_reducible refine wpT_nil ?_) | (refine wpT_W (v:=?_) trivial (by decide) (wn_ rfl) (fun _ hS_=>?_) ?_;rotate_left;(focus ((try dsimp only at hS_);go_simp;rfl))) | (refine wpT_R (v:=?_) trivial (by decide) (wn_ rfl) ?_ ?_;rotate_left;(focus (go_simp;rfl))) | (refine wpT_A (v:=?_) (ob:=?_) trivial (by decide) (wn_ rfl) ?_ ?_ ?_;rotate_left 2;(focus (go_simp;first | (constructor <;> rfl) | rfl));(focus (exact trivial))));(try simp only [Act.put,sA_,sB_,sC_]))
 refine wpT_L trivial (by decide) (wn_ rfl) (fun K_ hK_=>?_)
 refine step_mem_app (ops:=#[]) 3 rfl (.tmp 51) (.tmp 57) 84 144 (.agg #[.int .i64 0,.int .i64 0,.bool false,.slice none 0 0]) 4 48 rfl Try.underlying84 info144 rfl (by decide) (by decide) _ c.opn.length (recs (c.opn.map Frm.cells) bs) [.int .i64 label,.int .i64 (c.pts.length:Int),.bool lp,nilS] rfl rfl rfl (by simp [Value.oneCell']) M7.out rfl (by have:=HOK.out.fr;simp only [big] at this;omega) ?_
 intro A8 c8 w8 M8
 refine hK_ _ _ trivial ?_
 clear hK_
 have d1:w8.cell? ⟨bc,2,none⟩=some (.slice AF c.opn.length nF):=M8.cell (k:=0) (j:=2) rfl rfl
 have d2:=M8.free (k:=0) (j:=2) rfl
 obtain ⟨w9,s9,M9⟩:=M8.set (k:=0) 2 rfl (.slice A8 (c.opn.length+1) c8)
 have hbs:bs.length=c.opn.length:=by have:=(M8.rows (k:=4) rfl).len;simpa using this
 have M10:Mem w0 w9 F ((c.begin label lp).own bc (.slice gA g.length gc) bm ⟨.slice AS c.pts.length nS,.slice A8 (c.opn.length+1) c8,ts,bs++[nilS]⟩++[.blk b3 (.cells #[.int .i64 kind,.int .i64 0,.int .i64 label,.slice A kids.length n] 31 (0,0))]):=by
  have h1:=((M9.nilrow 3 1).join (k:=4) (j:=6) (xs:=[]) rfl rfl).order [1,2,3,4,0] rfl
  unfold Ks.own Ks.begin
  simp only [List.map_append,List.map_cons,List.map_nil,List.length_append,List.length_singleton]
  rw [recs_snoc _ _ (by rw [List.length_map];exact hbs.symm)]
  exact h1
 have M10:=ak_ M10
 clear M8 M9
 iterate 2 ((first | (with_reducible refine wpT_nil ?_) | (refine wpT_W (v:=?_) trivial (by decide) (wn_ rfl) (fun _ hS_=>?_) ?_;rotate_left;(focus ((try dsimp only at hS_);go_simp;rfl))) | (refine wpT_R (v:=?_) trivial (by decide) (wn_ rfl) ?_ ?_;rotate_left;(focus (go_simp;rfl))) | (refine wpT_A (v:=?_) (ob:=?_) trivial (by decide) (wn_ rfl) ?_ ?_ ?_;rotate_left 2;(focus (go_simp;first | (constructor <;> rfl) | rfl));(focus (exact trivial))));(try simp only [Act.put,sA_,sB_,sC_]))
 (refine wpT_L trivial (by decide) (wn_ rfl) (fun K_ hK_=>?_);go_simp;refine hK_ _ _ trivial ?_;clear hK_)
 refine wpT_nil ?_
 clear d1 d2 s9 z7 k2 e2f k1d hbs e0d
 obtain ⟨ad,A3,c3,e,g0,g1,g2,g3,hc3,hC3⟩:=kid_at HK.out 0 (by have:=HL1.out;omega)
 have hk0:kids[0]'(by have:=HL1.out;omega)=k:=by simp [HKK.out]
 rw [hk0] at g0 g1 g2 g3 hc3 hC3
 have e3:w9.cell? ⟨b3,3,none⟩=some (.slice A kids.length n):=M10.out.cell (k:=6) (j:=3) rfl rfl
 rw [e] at e3
 have q0:=pw_cell_below M10.out.hb g0
 have q1:=pw_cell_below M10.out.hb g1
 have q2:=pw_cell_below M10.out.hb g2
 have q3:=pw_cell_below M10.out.hb g3
 simp only [Nat.zero_mul,addz] at q0 q1 q2 q3
 have HC3:=ak_ hC3
 have HOO:=ak_ (show (c.begin label lp).Ok (3 * szF k - 1+(m+2)) from (HOK.out.mono (by have:1<=szF k:=by { rw [szF_eq];omega };rw [HKK.out];simp [szL];omega)).begin label lp)
 have IHK:=ak_ (IH.out k (by rw [HKK.out];simp))
 have h9:=ak_ (convF_ok g (m+2) k (c.begin label lp) HOO.out)
 obtain ⟨d,hd⟩:∃ d,d=(convF g k (c.begin label lp)).2:=⟨_,rfl⟩
 rw [<-hd] at h9 HGD
 have HD:=ak_ hd
 obtain ⟨rb,hrb⟩:∃ rb,rb=(convF g k (c.begin label lp)).1:=⟨_,rfl⟩
 rw [<-hrb] at h9 HGD
 have HRB:=ak_ hrb
 clear g0 g1 g2 g3 hC3 hd hrb hk0
 cases rb with
 | false =>
  have HG2:=ak_ (show kencF g kind 0 label kids c=(false,d) by rw [HGD.out];rfl)
  clear HGD
  go_wp2_with (first
   | (go_at_call 50;refine (IHK.out F _ (c.begin label lp) _ w9 A3 c3 (m+2) M10.out HOO.out HC3.out hc3).mono ?_;rintro e w10 ⟨rfl,p10,M10'⟩;rw [<-HRB.out];rw [<-HD.out] at M10';have M11:=ak_ M10'))
  go_ret
  rw [HG2.out]
  exact ⟨rfl,p10,M11.out.lose (k:=6) rfl⟩
 | true =>
  have HG2:=ak_ (show kencF g kind 0 label kids c=(true,d.close lp c.pts.length) by rw [HGD.out];rfl)
  clear HGD
  go_wp2_with (first
   | (go_at_call 50;refine (IHK.out F _ (c.begin label lp) _ w9 A3 c3 (m+2) M10.out HOO.out HC3.out hc3).mono ?_;rintro e w10 ⟨rfl,p10,M10'⟩;rw [<-HRB.out];rw [<-HD.out] at M10';have M11:=ak_ M10'))
  have h9:=h9.out
  have M11:=M11.out
  have hL:d.opn.length=c.opn.length+1:=by rw [h9.2.2.1 (by first | rfl | trivial)];simp [Ks.begin]
  obtain ⟨fs,f,hfs⟩:∃ fs f,d.opn=fs++[f]:=by
   have hne:d.opn≠[]:=fun h=>by rw [h] at hL;simp at hL
   exact ⟨_,_,(List.dropLast_concat_getLast hne).symm⟩
  have hLf:fs.length=c.opn.length:=by rw [hfs] at hL;simpa using hL
  have HFIN:=ak_ (show d.close lp c.pts.length=(if lp=true then Ks.emit { d with opn:=fs } ⟨1,0,[(c.pts.length:Int)]⟩ else { d with opn:=fs }).land f.brk by
   simp only [Ks.close,Ks.exits]
   rw [hfs]
   simp)
  obtain ⟨dst,dfr,dla⟩:=d
  dsimp only at hfs hLf hL h9 HFIN
  subst hfs
  obtain ⟨vS,vF,ts',bs'⟩:=p10
  obtain ⟨bF,cF,e',hcF,hcell⟩:=M11.rowForm (k:=3) rfl (by simp)
  dsimp only at e'
  subst e'
  have hbl:bs'.length=fs.length+1:=by have:=(M11.rows (k:=4) rfl).len;simpa using this
  obtain ⟨bs2,v,rfl⟩:∃ bs2 v,bs'=bs2++[v]:=by
   have hne:bs'≠[]:=fun h=>by rw [h] at hbl;simp at hbl
   exact ⟨_,_,(List.dropLast_concat_getLast hne).symm⟩
  have hbl2:bs2.length=fs.length:=by simpa using hbl
  obtain ⟨Av,nv,hv,hnv⟩:=(M11.rowsPop (k:=4) (vs:=bs2) (v:=v) (xss:=fs.map Frm.brk) (xs:=f.brk) (by show some (Pc.rows _ ((fs++[f]).map Frm.brk))=_;rw [List.map_append];rfl)).rowSlice' (k:=1) rfl
  subst hv
  have hrec:∀ j,j<=3->(recs ((fs++[f]).map Frm.cells) (bs2++[.slice Av f.brk.length nv]))[fs.length * 4+j]?=(f.cells++[.slice Av f.brk.length nv])[j]?:=fun j hj=>by
   rw [recs_get (m:=3) (by simp [hbl2]) (frm_len _) (by simp) hj]
   congr 2
   ·simp [List.getD_eq_getElem?_getD]
   ·rw [<-hbl2,getD_snoc_new]
  obtain ⟨w12,z12,M12⟩:=M11.drew
  have k2:w12.cell? ⟨bc,2,none⟩=some (.slice (some ⟨bF,0,none⟩) (fs.length+1) cF):=by
   have:=M12.cell (k:=0) (j:=2) rfl rfl
   simpa using this
  obtain ⟨bF',cF',e',_,hcell2⟩:=M12.rowForm (k:=3) rfl (by simp)
  simp only [Value.slice.injEq,Option.some.injEq,Addr.mk.injEq,and_true,true_and] at e'
  obtain ⟨rfl,rfl⟩:=e'
  have r0:w12.cell? ⟨bF,fs.length * 4,none⟩=some (.int .i64 f.label):=hcell2 _ _ ((hrec 0 (by omega)).trans rfl)
  have r1:w12.cell? ⟨bF,fs.length * 4+1,none⟩=some (.int .i64 f.start):=hcell2 _ _ ((hrec 1 (by omega)).trans rfl)
  have r2:w12.cell? ⟨bF,fs.length * 4+2,none⟩=some (.bool f.loop):=hcell2 _ _ ((hrec 2 (by omega)).trans rfl)
  have r3:w12.cell? ⟨bF,fs.length * 4+3,none⟩=some (.slice Av f.brk.length nv):=hcell2 _ _ ((hrec 3 (by omega)).trans rfl)
  obtain ⟨b7,w13,z13,a13,M13⟩:=M12.alloc (.cells #[.int .i64 0,.int .i64 0,.bool false,.slice none 0 0] 144)
  obtain ⟨y1,y2,y3,y4,ys,yc,yf,M14⟩:=M13.fill4 (k:=7) rfl (.int .i64 f.label) (.int .i64 f.start) (.bool f.loop) (.slice Av f.brk.length nv)
  have hfr:fs.length < 1000000000:=by have:=HOK.out.fr;simp only [big] at this;omega
  have hw1:IntKind.i64.wrap (fs.length:Int)=(fs.length:Int):=IntWalk.i64_in _ (by omega)
  have hw2:(fs.length:Int) < (fs.length:Int)+1:=by omega
  have A13:=ak_ (And.intro a13 z13)
  have YS:=ak_ ys
  have M14:=ak_ M14
  have HB2:=ak_ hbl2
  have HLF:=ak_ hLf
  have H9:=ak_ h9
  have HCF:=ak_ hcF
  have E3:=ak_ e
  clear a13 z13 M11 M12 M13 hcell hcell2 hrec hL hbl hbl2 hLf h9 hcF q0 q1 q2 q3 e3 M10 M7 M2 e
  go_wp2_with (first | (rw [z12]) | (refine wp_region_txt (fun _=>True) [] (by kernel_rfl) (by kernel_rfl) ?_))
  iterate 13 ((first | (with_reducible refine wpT_nil ?_) | (refine wpT_W (v:=?_) trivial (by decide) (wn_ rfl) (fun _ hS_=>?_) ?_;rotate_left;(focus ((try dsimp only at hS_);go_simp;rfl))) | (refine wpT_R (v:=?_) trivial (by decide) (wn_ rfl) ?_ ?_;rotate_left;(focus (go_simp;rfl))) | (refine wpT_A (v:=?_) (ob:=?_) trivial (by decide) (wn_ rfl) ?_ ?_ ?_;rotate_left 2;(focus (go_simp;first | (constructor <;> rfl) | rfl));(focus (exact trivial))));(try simp only [Act.put,sA_,sB_,sC_]))
  rw [A13.out.1,A13.out.2]
  obtain ⟨ys1,ys2,ys3,ys4⟩:=YS.out
  obtain ⟨yc1,yc2,yc3,yc4⟩:=yc
  obtain ⟨yf1,yf2,yf3,yf4⟩:=yf
  (refine wpT_L trivial (by decide) (wn_ rfl) (fun K_ hK_=>?_);go_simp;refine hK_ _ _ trivial ?_;clear hK_)
  refine wpT_nil ?_
  clear ys1 ys2 ys3 ys4 yc1 yc2 yc3 yc4 yf1 yf2 yf3 yf4 YS r0 r1 r2 r3 k2 z12
  obtain ⟨w15,z15,M15⟩:=M14.out.drew
  have k2:w15.cell? ⟨bc,2,none⟩=some (.slice (some ⟨bF,0,none⟩) (fs.length+1) cF):=by
   have:=M15.cell (k:=0) (j:=2) rfl rfl
   simpa using this
  have hcF':fs.length<=cF:=by have:=HCF.out;simp at this;omega
  have f2:=M15.free (k:=0) (j:=2) rfl
  obtain ⟨w16,s16,M16⟩:=M15.set (k:=0) 2 rfl (.slice (some ⟨bF,0,none⟩) fs.length cF)
  have M16:=ak_ M16
  clear M14 M15
  go_wp2_with (first | (rw [z15]) | (refine wp_region_txt (fun _=>True) [] (by kernel_rfl) (by kernel_rfl) ?_))
  iterate 14 ((first | (with_reducible refine wpT_nil ?_) | (refine wpT_W (v:=?_) trivial (by decide) (wn_ rfl) (fun _ hS_=>?_) ?_;rotate_left;(focus ((try dsimp only at hS_);go_simp;rfl))) | (refine wpT_R (v:=?_) trivial (by decide) (wn_ rfl) ?_ ?_;rotate_left;(focus (go_simp;rfl))) | (refine wpT_A (v:=?_) (ob:=?_) trivial (by decide) (wn_ rfl) ?_ ?_ ?_;rotate_left 2;(focus (go_simp;first | (constructor <;> rfl) | rfl));(focus (exact trivial))));(try simp only [Act.put,sA_,sB_,sC_]))
  (refine wpT_L trivial (by decide) (wn_ rfl) (fun K_ hK_=>?_);go_simp;refine hK_ _ _ trivial ?_;clear hK_)
  refine wpT_nil ?_
  clear k2 f2 s16 z15
  obtain ⟨bd,hbd⟩:∃ bd:Ks,bd=⟨dst,fs,dla⟩:=⟨_,rfl⟩
  have M17:Mem w0 w16 F (bd.own bc (.slice gA g.length gc) bm ⟨vS,.slice (some ⟨bF,0,none⟩) fs.length cF,ts',bs2⟩++[.blk b3 (.cells #[.int .i64 kind,.int .i64 0,.int .i64 label,.slice A kids.length n] 31 (0,0)),.blk b7 (.cells #[.int .i64 f.label,.int .i64 f.start,.bool f.loop,.slice Av f.brk.length nv] 144 (0,0)),.row (.slice Av f.brk.length nv) 3 1 f.brk.length (nums .i64 f.brk)]):=by
   have h1:=M16.out.rowCut (k:=3) fs.length rfl (by simp)
   have hk:(recs ((fs++[f]).map Frm.cells) (bs2++[.slice Av f.brk.length nv])).take (fs.length * 4)=recs (fs.map Frm.cells) bs2:=by
    rw [recs_take (m:=3) (by simp [HB2.out]) (frm_len _),<-HB2.out]
    simp [HB2.out]
   have h2:=h1.rowsPop (k:=4) (vs:=bs2) (v:=.slice Av f.brk.length nv) (xss:=fs.map Frm.brk) (xs:=f.brk) (by show some (Pc.rows _ ((fs++[f]).map Frm.brk))=_;rw [List.map_append];rfl)
   have h3:=h2.order [2,3,4,5,0,6,7,8,1] rfl
   subst hbd
   unfold Ks.own
   rw [<-hk]
   exact h3
  have hbrk:∀ e∈f.brk,0<=e/\e < (dst.length:Int):=fun e he=>(H9.out.1.br f (by simp)).2 e he
  have HBRK:=ak_ hbrk
  have hbig:f.brk.length<=1000000000:=by have h8:=(H9.out.1.br f (by simp)).1;simp only [big] at h8;omega
  have M17:=ak_ M17
  have HBDE:=ak_ hbd
  have v3':w16.cell? ⟨b7,3,none⟩=some (.slice Av f.brk.length nv):=M17.out.cell (k:=7) (j:=3) rfl rfl
  clear hbrk M16 hbd
  cases lp with
  | false =>
   obtain ⟨cZ,hcZ⟩:∃ cZ,cZ=(Ks.mk dst fs dla).land f.brk:=⟨_,rfl⟩
   have HZ:=ak_ hcZ
   have HFI:=ak_ (show kencF g kind 0 label kids c=(true,cZ) by rw [HG2.out,HFIN.out,hcZ];rfl)
   clear hcZ HFIN HG2
   go_wp2
   clear v3'
   go_loopw [103] (fun t wr=>∃ (i:Nat) (c'':Ks) (p'':Kp),t=.int .i64 i/\i<=f.brk.length/\Aside0 (c''.land (f.brk.drop i)=cZ)/\Aside0 (∀ e∈f.brk,0<=e/\e < c''.pts.length) /\
    Aside0 (Mem w0 wr F (c''.own bc (.slice gA g.length gc) bm p''++[.blk b3 (.cells #[.int .i64 kind,.int .i64 0,.int .i64 label,.slice A kids.length n] 31 (0,0)),.blk b7 (.cells #[.int .i64 f.label,.int .i64 f.start,.bool f.loop,.slice Av f.brk.length nv] 144 (0,0)),.row (.slice Av f.brk.length nv) 3 1 f.brk.length (nums .i64 f.brk)]))) (fun t _=>f.brk.length - (intOf t).toNat)
   case atStart=>exact ⟨0,_,_,rfl,Nat.zero_le _,⟨HZ.out.symm⟩,⟨HBRK.out⟩,⟨by have:=M17.out;rw [HBDE.out] at this;exact this⟩⟩
   case round =>
    obtain ⟨i,c2,p2,rfl,hi,hA,hE,hM⟩:=hrel
    by_cases hlt:i < f.brk.length
    ·obtain ⟨b6,c6',e9,j2⟩:=hM.out.rowNum (k:=8) (i:=i) rfl rfl hlt
     simp only [Value.slice.injEq] at e9
     obtain ⟨rfl,hx9,rfl⟩:=e9
     clear hx9
     have hbi:f.brk.getD i 0∈f.brk:=by rw [List.getD_eq_getElem?_getD,List.getElem?_eq_getElem hlt];exact List.getElem_mem _
     obtain ⟨q,hq⟩:∃ q:Nat,f.brk.getD i 0=q:=⟨(f.brk.getD i 0).toNat,by have:=(hE.out _ hbi).1;omega⟩
     have hql:q < c2.pts.length:=by have:=(hE.out _ hbi).2;omega
     have hA2:=hA.out
     rw [List.drop_eq_getElem_cons hlt,Ks.land,show f.brk[i]=(q:Int) by rw [<-hq,List.getD_eq_getElem?_getD,List.getElem?_eq_getElem hlt];rfl,Int.toNat_natCast] at hA2
     have HA:=ak_ hA2
     rw [hq] at j2
     obtain ⟨w20,z20,M20⟩:=hM.out.drew
     obtain ⟨n8,w21,z21,a21,M21⟩:=M20.one (c2.pts.length:Int)
     have M21':=(M21.order [0,1,2,3,4,5,9,6,7,8] rfl)
     obtain ⟨bS,cS,w22,k1,s22,⟨u9',t22⟩,f22,M22⟩:=Mem.setToK (n:=q) (xs:=[(c2.pts.length:Int)]) (H:=[.blk b3 (.cells #[.int .i64 kind,.int .i64 0,.int .i64 label,.slice A kids.length n] 31 (0,0)),.blk b7 (.cells #[.int .i64 f.label,.int .i64 f.start,.bool f.loop,.slice (some ⟨b6,0,none⟩) f.brk.length nv] 144 (0,0)),.row _ 3 1 f.brk.length (nums .i64 f.brk)]) M21' hql
     have k2:w20.cell? ⟨bc,1,none⟩=some (.slice (some ⟨bS,0,none⟩) c2.pts.length cS):=by
      obtain ⟨A,nn,e⟩:=ownK_vS M20
      have h1:=pw_cell_below (below_alloc (Below.refl _ _) (.cells #[.int .i64 (c2.pts.length:Int)] 3)) e
      rw [a21,k1] at h1
      rw [e,<-h1]
     have hlt':(i:Int) < f.brk.length:=by omega
     have hql':(q:Int) < c2.pts.length:=by omega
     have A8:=ak_ (And.intro a21 z21)
     have HLT:=ak_ hlt
     have M22:=ak_ M22
     clear hA hA2 hM hbi hq hql M20 M21 M21' a21 z21 hlt
     go_wp2_with (first | (rw [z20]) | (refine wp_region_txt (fun _=>True) [] (by kernel_rfl) (by kernel_rfl) ?_))
     iterate 11 ((first | (with_reducible refine wpT_nil ?_) | (refine wpT_W (v:=?_) trivial (by decide) (wn_ rfl) (fun _ hS_=>?_) ?_;rotate_left;(focus ((try dsimp only at hS_);go_simp;rfl))) | (refine wpT_R (v:=?_) trivial (by decide) (wn_ rfl) ?_ ?_;rotate_left;(focus (go_simp;rfl))) | (refine wpT_A (v:=?_) (ob:=?_) trivial (by decide) (wn_ rfl) ?_ ?_ ?_;rotate_left 2;(focus (go_simp;first | (constructor <;> rfl) | rfl));(focus (exact trivial))));(try simp only [Act.put,sA_,sB_,sC_]))
     rw [A8.out.1,A8.out.2]
     iterate 2 ((first | (with_reducible refine wpT_nil ?_) | (refine wpT_W (v:=?_) trivial (by decide) (wn_ rfl) (fun _ hS_=>?_) ?_;rotate_left;(focus ((try dsimp only at hS_);go_simp;rfl))) | (refine wpT_R (v:=?_) trivial (by decide) (wn_ rfl) ?_ ?_;rotate_left;(focus (go_simp;rfl))) | (refine wpT_A (v:=?_) (ob:=?_) trivial (by decide) (wn_ rfl) ?_ ?_ ?_;rotate_left 2;(focus (go_simp;first | (constructor <;> rfl) | rfl));(focus (exact trivial))));(try simp only [Act.put,sA_,sB_,sC_]))
     (refine wpT_L trivial (by decide) (wn_ rfl) (fun K_ hK_=>?_);go_simp;refine hK_ _ _ trivial ?_;clear hK_)
     refine wpT_nil ?_
     clear k1 k2 j2 s22 t22 f22 z20
     go_wp2
     go_roundw
     case rel=>exact ⟨i+1,_,_,by go_num,by have:=HLT.out;omega,HA,⟨by simpa [Ks.setTo,setTos_length] using hE.out⟩,M22⟩
     case measure=>have:=HLT.out;simp [intOf];omega
    ·obtain rfl:i=f.brk.length:=by omega
     have hA2:=hA.out
     rw [List.drop_length,Ks.land] at hA2
     have HA:=ak_ hA2
     clear hA hA2
     go_wp2
     go_ret
     rw [HFI.out]
     refine ⟨rfl,p2,?_⟩
     have h1:=((hM.out.lose (k:=8) rfl).lose (k:=7) rfl).lose (k:=6) rfl
     rw [HA.out] at h1
     exact h1
  | true =>
   obtain ⟨b8,w17,z17,a17,M18⟩:=M17.out.one (c.pts.length:Int)
   have MF:Mem w0 w17 ([.blk b3 (.cells #[.int .i64 kind,.int .i64 0,.int .i64 label,.slice A kids.length n] 31 (0,0)),.blk b7 (.cells #[.int .i64 f.label,.int .i64 f.start,.bool f.loop,.slice Av f.brk.length nv] 144 (0,0)),.row (.slice Av f.brk.length nv) 3 1 f.brk.length (nums .i64 f.brk)]++F)
    (bd.own bc (.slice gA g.length gc) bm ⟨vS,.slice (some ⟨bF,0,none⟩) fs.length cF,ts',bs2⟩++[.row (.slice (some ⟨b8,0,none⟩) 1 1) 3 1 ([(c.pts.length:Int)]).length (nums .i64 [(c.pts.length:Int)])]):=M18.focus [0,1,2,3,4,5,9] rfl
   have MF:=ak_ MF
   have HLB:bd.pts.length < 1000000000:=by have h8:dst.length+2 * (m+2)+2<=big:=H9.out.2.1;rw [HBDE.out];show dst.length < 1000000000;simp only [big] at h8;omega
   obtain ⟨cZ,hcZ⟩:∃ cZ,cZ=(bd.emit ⟨1,0,[(c.pts.length:Int)]⟩).land f.brk:=⟨_,rfl⟩
   have HZ:=ak_ hcZ
   have HFI:=ak_ (show kencF g kind 0 label kids c=(true,cZ) by rw [HG2.out,HFIN.out,hcZ,HBDE.out];rfl)
   clear M18 hcZ HFIN HG2 v3'
   go_wp2_with (first
    | (go_at_call 51;refine (add_any w0 w17 _ bc _ bd bm _ 1 0 (.slice (some ⟨b8,0,none⟩) 1 1) [(c.pts.length:Int)] MF.out HLB).mono ?_;rintro e w18 ⟨rfl,A9,c9,M19⟩;have M20:=M19.wide;have v3':w18.cell? ⟨b7,3,none⟩=some (.slice Av f.brk.length nv):=M20.cell (k:=7) (j:=3) rfl rfl;have M20:=ak_ M20;clear M19))
   clear v3'
   go_loopw [103] (fun t wr=>∃ (i:Nat) (c'':Ks) (p'':Kp),t=.int .i64 i/\i<=f.brk.length/\Aside0 (c''.land (f.brk.drop i)=cZ)/\Aside0 (∀ e∈f.brk,0<=e/\e < c''.pts.length) /\
    Aside0 (Mem w0 wr F (c''.own bc (.slice gA g.length gc) bm p''++[.blk b3 (.cells #[.int .i64 kind,.int .i64 0,.int .i64 label,.slice A kids.length n] 31 (0,0)),.blk b7 (.cells #[.int .i64 f.label,.int .i64 f.start,.bool f.loop,.slice Av f.brk.length nv] 144 (0,0)),.row (.slice Av f.brk.length nv) 3 1 f.brk.length (nums .i64 f.brk)]))) (fun t _=>f.brk.length - (intOf t).toNat)
   case atStart=>exact ⟨0,_,_,rfl,Nat.zero_le _,⟨HZ.out.symm⟩,⟨fun e he=>by have:=HBRK.out e he;rw [HBDE.out];simp [Ks.emit];omega⟩,M20⟩
   case round =>
    obtain ⟨i,c2,p2,rfl,hi,hA,hE,hM⟩:=hrel
    by_cases hlt:i < f.brk.length
    ·obtain ⟨b6,c6',e9,j2⟩:=hM.out.rowNum (k:=8) (i:=i) rfl rfl hlt
     simp only [Value.slice.injEq] at e9
     obtain ⟨rfl,hx9,rfl⟩:=e9
     clear hx9
     have hbi:f.brk.getD i 0∈f.brk:=by rw [List.getD_eq_getElem?_getD,List.getElem?_eq_getElem hlt];exact List.getElem_mem _
     obtain ⟨q,hq⟩:∃ q:Nat,f.brk.getD i 0=q:=⟨(f.brk.getD i 0).toNat,by have:=(hE.out _ hbi).1;omega⟩
     have hql:q < c2.pts.length:=by have:=(hE.out _ hbi).2;omega
     have hA2:=hA.out
     rw [List.drop_eq_getElem_cons hlt,Ks.land,show f.brk[i]=(q:Int) by rw [<-hq,List.getD_eq_getElem?_getD,List.getElem?_eq_getElem hlt];rfl,Int.toNat_natCast] at hA2
     have HA:=ak_ hA2
     rw [hq] at j2
     obtain ⟨w20,z20,M20⟩:=hM.out.drew
     obtain ⟨n8,w21,z21,a21,M21⟩:=M20.one (c2.pts.length:Int)
     have M21':=(M21.order [0,1,2,3,4,5,9,6,7,8] rfl)
     obtain ⟨bS,cS,w22,k1,s22,⟨u9',t22⟩,f22,M22⟩:=Mem.setToK (n:=q) (xs:=[(c2.pts.length:Int)]) (H:=[.blk b3 (.cells #[.int .i64 kind,.int .i64 0,.int .i64 label,.slice A kids.length n] 31 (0,0)),.blk b7 (.cells #[.int .i64 f.label,.int .i64 f.start,.bool f.loop,.slice (some ⟨b6,0,none⟩) f.brk.length nv] 144 (0,0)),.row _ 3 1 f.brk.length (nums .i64 f.brk)]) M21' hql
     have k2:w20.cell? ⟨bc,1,none⟩=some (.slice (some ⟨bS,0,none⟩) c2.pts.length cS):=by
      obtain ⟨A,nn,e⟩:=ownK_vS M20
      have h1:=pw_cell_below (below_alloc (Below.refl _ _) (.cells #[.int .i64 (c2.pts.length:Int)] 3)) e
      rw [a21,k1] at h1
      rw [e,<-h1]
     have hlt':(i:Int) < f.brk.length:=by omega
     have hql':(q:Int) < c2.pts.length:=by omega
     have A8:=ak_ (And.intro a21 z21)
     have HLT:=ak_ hlt
     have M22:=ak_ M22
     clear hA hA2 hM hbi hq hql M20 M21 M21' a21 z21 hlt
     go_wp2_with (first | (rw [z20]) | (refine wp_region_txt (fun _=>True) [] (by kernel_rfl) (by kernel_rfl) ?_))
     iterate 11 ((first | (with_reducible refine wpT_nil ?_) | (refine wpT_W (v:=?_) trivial (by decide) (wn_ rfl) (fun _ hS_=>?_) ?_;rotate_left;(focus ((try dsimp only at hS_);go_simp;rfl))) | (refine wpT_R (v:=?_) trivial (by decide) (wn_ rfl) ?_ ?_;rotate_left;(focus (go_simp;rfl))) | (refine wpT_A (v:=?_) (ob:=?_) trivial (by decide) (wn_ rfl) ?_ ?_ ?_;rotate_left 2;(focus (go_simp;first | (constructor <;> rfl) | rfl));(focus (exact trivial))));(try simp only [Act.put,sA_,sB_,sC_]))
     rw [A8.out.1,A8.out.2]
     iterate 2 ((first | (with_reducible refine wpT_nil ?_) | (refine wpT_W (v:=?_) trivial (by decide) (wn_ rfl) (fun _ hS_=>?_) ?_;rotate_left;(focus ((try dsimp only at hS_);go_simp;rfl))) | (refine wpT_R (v:=?_) trivial (by decide) (wn_ rfl) ?_ ?_;rotate_left;(focus (go_simp;rfl))) | (refine wpT_A (v:=?_) (ob:=?_) trivial (by decide) (wn_ rfl) ?_ ?_ ?_;rotate_left 2;(focus (go_simp;first | (constructor <;> rfl) | rfl));(focus (exact trivial))));(try simp only [Act.put,sA_,sB_,sC_]))
     (refine wpT_L trivial (by decide) (wn_ rfl) (fun K_ hK_=>?_);go_simp;refine hK_ _ _ trivial ?_;clear hK_)
     refine wpT_nil ?_
     clear k1 k2 j2 s22 t22 f22 z20
     go_wp2
     go_roundw
     case rel=>exact ⟨i+1,_,_,by go_num,by have:=HLT.out;omega,HA,⟨by simpa [Ks.setTo,setTos_length] using hE.out⟩,M22⟩
     case measure=>have:=HLT.out;simp [intOf];omega
    ·obtain rfl:i=f.brk.length:=by omega
     have hA2:=hA.out
     rw [List.drop_length,Ks.land] at hA2
     have HA:=ak_ hA2
     clear hA hA2
     go_wp2
     go_ret
     rw [HFI.out]
     refine ⟨rfl,p2,?_⟩
     have h1:=((hM.out.lose (k:=8) rfl).lose (k:=7) rfl).lose (k:=6) rfl
     rw [HA.out] at h1
     exact h1
theorem firstF_lt (t:Frm->Bool):∀ (fs:List Frm) (k:Nat),firstF t fs k < 0∨∃ n:Nat,firstF t fs k=n/\k<=n/\n < k+fs.length
 | [],_=>.inl (by simp [firstF])
 | f :: fs,k=>by
  unfold firstF
  split
  ·exact .inr ⟨k,rfl,Nat.le_refl _,by simp⟩
  ·rcases firstF_lt t fs (k+1) with h | ⟨n,h1,h2,h3⟩
   ·exact .inl h
   ·exact .inr ⟨n,h1,by omega,by simp;omega⟩
theorem Ks.leave_eq (c:Ks) (kind node label:Int) (kids:List S31) (N:Int) (hN:N=firstF (fun f=>decide (f.label=label) && (f.loop || decide (kind=5))) c.opn 0) :
  c.leave kind node label kids=if N < 0∨kids.length≠0∨node≠0 then (false,c) else (true,if kind=5 then { c.emit ⟨1,0,[]⟩ with opn:=addBrk c.opn N.toNat (c.pts.length:Int) } else (c.emit ⟨1,0,[]⟩).setTo c.pts.length [((c.opn[N.toNat]?).map Frm.start).getD 0]):=by
 subst hN
 rfl
set_option maxRecDepth 100000 in
set_option maxHeartbeats 4000000 in
theorem kleave_any (w0:World) (bc:Nat) (gv:Value) (bm:Nat) (kind node label:Int) (kids:List S31)
  (F:List Pc) (c:Ks) (p:Kp) (w:World) (A:Option Addr) (n m:Nat) (M:Mem w0 w F (c.own bc gv bm p)) (hok:c.Ok (1+m)) (hbig:kids.length < 1000000000) :
  Calls Try.prog 74 #[.pointer (some ⟨bc,0,none⟩),.agg #[.int .i64 kind,.int .i64 node,.int .i64 label,.slice A kids.length n]] w fun e w'=>e=.returned (.bool (c.leave kind node label kids).1)/\∃ p',Mem w0 w' F ((c.leave kind node label kids).2.own bc gv bm p'):=by
 obtain ⟨vS,vF,ts,bs⟩:=p
 obtain ⟨b3,w1,z1,a1,M1⟩:=M.alloc (.cells #[.int .i64 kind,.int .i64 node,.int .i64 label,.slice A kids.length n] 31)
 have M1:=ak_ (show Mem w0 w1 F (c.own bc gv bm ⟨vS,vF,ts,bs⟩++[.blk b3 (.cells #[.int .i64 kind,.int .i64 node,.int .i64 label,.slice A kids.length n] 31 (0,0))]) from M1)
 have HOK:=ak_ hok
 have e0:w1.cell? ⟨b3,0,none⟩=some (.int .i64 kind):=M1.out.cell (k:=6) (j:=0) rfl rfl
 have e2:w1.cell? ⟨b3,2,none⟩=some (.int .i64 label):=M1.out.cell (k:=6) (j:=2) rfl rfl
 have hbl:bs.length=c.opn.length:=by have:=(M1.out.rows (k:=4) rfl).len;simpa using this
 have hfr:c.opn.length < 1000000000:=by have:=HOK.out.fr;simp only [big] at this;omega
 have hst:c.pts.length < 1000000000:=by have:=HOK.out.st;simp only [big] at this;omega
 have k2:w1.cell? ⟨bc,2,none⟩=some vF:=M1.out.cell (k:=0) (j:=2) rfl rfl
 have ho:w1.ownsRow 0 144 4 vF c.opn.length (recs (c.opn.map Frm.cells) bs):=M1.out.says (k:=3) rfl
 obtain ⟨N,hN⟩:∃ N,N=firstF (fun f=>decide (f.label=label) && (f.loop || decide (kind=5))) c.opn 0:=⟨_,rfl⟩
 have EN:=ak_ (first_any w1 b3 kind label c.opn bs vF e0 e2 hfr hbl.symm ho)
 rw [<-hN] at EN
 have HNL:=ak_ (firstF_lt (fun f=>decide (f.label=label) && (f.loop || decide (kind=5))) c.opn 0)
 rw [<-hN] at HNL
 have HF:=ak_ (Ks.leave_eq c kind node label kids N hN)
 clear M hok ho hN e0 e2
 by_cases hbad:N < 0∨kids.length≠0∨node≠0
 ·have HFL:=ak_ (show c.leave kind node label kids=(false,c) by rw [HF.out,if_pos hbad])
  by_cases hNneg:N < 0
  ·clear hbad
   go_enter Try.func74,Try.ntmps74
   go_wp2_with (first
    | (go_at_call 92;refine EN.out.mono ?_;rintro e w4 ⟨rfl,hb4⟩;have M4:=M1.out.below hb4;have e0':w4.cell? ⟨b3,0,none⟩=some (.int .i64 kind):=M4.cell (k:=6) (j:=0) rfl rfl;have e1':w4.cell? ⟨b3,1,none⟩=some (.int .i64 node):=M4.cell (k:=6) (j:=1) rfl rfl;have e3':w4.cell? ⟨b3,3,none⟩=some (.slice A kids.length n):=M4.cell (k:=6) (j:=3) rfl rfl;have M4:=ak_ M4;clear hb4))
   go_ret
   rw [HFL.out]
   exact ⟨rfl,_,M4.out.lose (k:=6) rfl⟩
  ·by_cases hk0:kids.length=0
   ·have hn0:(node != 0)=true:=by simpa using (hbad.resolve_left hNneg).resolve_left (by simpa using hk0)
    have hk1:((kids.length:Int) != 0)=false:=by simp [hk0]
    clear hbad hk0
    go_enter Try.func74,Try.ntmps74
    go_wp2_with (first
     | (go_at_call 92;refine EN.out.mono ?_;rintro e w4 ⟨rfl,hb4⟩;have M4:=M1.out.below hb4;have e0':w4.cell? ⟨b3,0,none⟩=some (.int .i64 kind):=M4.cell (k:=6) (j:=0) rfl rfl;have e1':w4.cell? ⟨b3,1,none⟩=some (.int .i64 node):=M4.cell (k:=6) (j:=1) rfl rfl;have e3':w4.cell? ⟨b3,3,none⟩=some (.slice A kids.length n):=M4.cell (k:=6) (j:=3) rfl rfl;have M4:=ak_ M4;clear hb4))
    go_ret
    rw [HFL.out]
    exact ⟨rfl,_,M4.out.lose (k:=6) rfl⟩
   ·have hk1:((kids.length:Int) != 0)=true:=bne_iff_ne.mpr (by omega)
    clear hbad hk0
    go_enter Try.func74,Try.ntmps74
    go_wp2_with (first
     | (go_at_call 92;refine EN.out.mono ?_;rintro e w4 ⟨rfl,hb4⟩;have M4:=M1.out.below hb4;have e0':w4.cell? ⟨b3,0,none⟩=some (.int .i64 kind):=M4.cell (k:=6) (j:=0) rfl rfl;have e1':w4.cell? ⟨b3,1,none⟩=some (.int .i64 node):=M4.cell (k:=6) (j:=1) rfl rfl;have e3':w4.cell? ⟨b3,3,none⟩=some (.slice A kids.length n):=M4.cell (k:=6) (j:=3) rfl rfl;have M4:=ak_ M4;clear hb4))
    go_ret
    rw [HFL.out]
    exact ⟨rfl,_,M4.out.lose (k:=6) rfl⟩
 have hNneg:¬ N < 0:=fun h=>hbad (.inl h)
 have hk0:kids.length=0:=Classical.byContradiction fun h=>hbad (.inr (.inl h))
 have hn0:node=0:=Classical.byContradiction fun h=>hbad (.inr (.inr h))
 subst hn0
 obtain ⟨q,hq,hql⟩:∃ q:Nat,N=q/\q < c.opn.length:=by
  obtain ⟨n,h1,h2,h3⟩:=HNL.out.resolve_left hNneg
  exact ⟨n,h1,by omega⟩
 subst hq
 have hk1:((kids.length:Int) != 0)=false:=by simp [hk0]
 have hNn:¬ ((q:Int) < 0):=hNneg
 have HGD:=ak_ (show c.leave kind 0 label kids=(true,if kind=5 then { c.emit ⟨1,0,[]⟩ with opn:=addBrk c.opn q (c.pts.length:Int) } else (c.emit ⟨1,0,[]⟩).setTo c.pts.length [((c.opn[q]?).map Frm.start).getD 0]) by rw [HF.out,if_neg hbad];rfl)
 clear hbad hNneg hk0 HNL HF
 by_cases hkd:kind=5
 ·have hkd':(kind == 5)=true:=by simp [hkd]
  have HGE:=ak_ (show c.leave kind 0 label kids=(true,{ c.emit ⟨1,0,[]⟩ with opn:=addBrk c.opn q (c.pts.length:Int) }) by rw [HGD.out,if_pos hkd])
  clear hkd HGD
  go_enter Try.func74,Try.ntmps74
  go_wp2_with (first
   | (go_at_call 92;refine EN.out.mono ?_;rintro e w4 ⟨rfl,hb4⟩;have M4:=M1.out.below hb4;have e0':w4.cell? ⟨b3,0,none⟩=some (.int .i64 kind):=M4.cell (k:=6) (j:=0) rfl rfl;have e1':w4.cell? ⟨b3,1,none⟩=some (.int .i64 0):=M4.cell (k:=6) (j:=1) rfl rfl;have e3':w4.cell? ⟨b3,3,none⟩=some (.slice A kids.length n):=M4.cell (k:=6) (j:=3) rfl rfl;have M4:=ak_ M4;clear hb4)
   | (go_at_call 51;refine (add0 bc _ c bm _ 1 0 M4.out hst).mono ?_;rintro e w9 ⟨rfl,p9,M9⟩;have e0'':w9.cell? ⟨b3,0,none⟩=some (.int .i64 kind):=M9.cell (k:=6) (j:=0) rfl rfl;have M9:=ak_ M9))
  obtain ⟨vS,vF,ts',bs'⟩:=p9
  obtain ⟨d,hd⟩:∃ d,d=c.emit ⟨1,0,[]⟩:=⟨_,rfl⟩
  rw [<-hd] at M9
  have hdf:d.opn=c.opn:=by rw [hd];rfl
  have hds:d.pts.length=c.pts.length+1:=by rw [hd];simp [Ks.emit]
  have hql':(q:Int) < d.opn.length:=by rw [hdf];omega
  have hql2:q < d.opn.length:=by rw [hdf];exact hql
  obtain ⟨w10,z10,M10⟩:=M9.out.drew
  obtain ⟨bF,cF,e,hcF,hcell⟩:=M10.rowForm (k:=3) rfl (by omega)
  dsimp only at e
  subst e
  have hbl2:bs'.length=d.opn.length:=by have:=(M10.rows (k:=4) rfl).len;simpa using this
  obtain ⟨fq,hfq⟩:∃ fq,d.opn[q]?=some fq:=⟨_,List.getElem?_eq_getElem hql2⟩
  have hrec:∀ j,j<=3->(recs (d.opn.map Frm.cells) bs')[q * 4+j]?=(fq.cells++[bs'.getD q nilS])[j]?:=fun j hj=>by
   rw [recs_get (m:=3) (by simp [hbl2]) (frm_len _) (by simpa using hql2) hj]
   congr 2
   simp [List.getD_eq_getElem?_getD,hfq]
  have k2d:w10.cell? ⟨bc,2,none⟩=some (.slice (some ⟨bF,0,none⟩) d.opn.length cF):=M10.cell (k:=0) (j:=2) rfl rfl
  obtain ⟨bks,hbks⟩:∃ bks,bks=(d.opn.map Frm.brk).getD q []:=⟨_,rfl⟩
  obtain ⟨Av,nv,hv⟩:∃ A0 c0,bs'.getD q nilS=.slice A0 bks.length c0:=by
   have:=(M10.rows (k:=4) rfl).row q (by show q < bs'.length;omega)
   rw [<-hbks] at this
   exact own_slice this
  have hbk:bks.length < 1000000000:=by
   have h8:=(HOK.out.br c.opn[q] (List.getElem_mem _)).1
   have h7:bks=c.opn[q].brk:=by rw [hbks,hdf];simp [List.getD_eq_getElem?_getD,hql]
   rw [h7];simp only [big] at h8;omega
  have r3:w10.cell? ⟨bF,q * 4+3,none⟩=some (.slice Av bks.length nv):=hcell _ _ ((hrec 3 (by omega)).trans (by rw [hv];rfl))
  have HC:=ak_ hrec
  have HB2:=ak_ hbl2
  have HV:=ak_ hv
  have HBK:=ak_ hbks
  have HD:=ak_ hd
  have HDF:=ak_ hdf
  have M10:=ak_ M10
  have HQ:=ak_ hql2
  clear hfq hrec hbl2 hv hbks hd hdf hds hql hql2 M9 M4 M1 hcell hcF e0'' k2
  go_wp2_with (first | (rw [z10]) | (refine wp_region_txt (fun W=>W.cell? ⟨bc,2,none⟩=some (.slice (some ⟨bF,0,none⟩) d.opn.length cF)) [3] (by kernel_rfl) (by kernel_rfl) ?_))
  iterate 15 ((first | (with_reducible refine wpT_nil ?_) | (refine wpT_W (v:=?_) (by assumption) (by decide) (wn_ rfl) (fun _ hS_=>?_) ?_;rotate_left;(focus ((try dsimp only at hS_);go_simp;rfl))) | (refine wpT_R (v:=?_) (by assumption) (by decide) (wn_ rfl) ?_ ?_;rotate_left;(focus (go_simp;rfl))) | (refine wpT_A (v:=?_) (ob:=?_) (by assumption) (by decide) (wn_ rfl) ?_ ?_ ?_;rotate_left 2;(focus (go_simp;first | (constructor <;> rfl) | rfl));(focus (apply cell_alloc;assumption))));(try simp only [Act.put,sA_,sB_,sC_]))
  refine wpT_L (cell_alloc _ k2d) (by decide) (wn_ rfl) (fun K_ hK_=>?_)
  refine step_mem_at (ops:=#[]) 4 q rfl (.tmp 44) (.tmp 46) rfl Try.underlying23 PShapeReducible.info3 bs' (d.opn.map Frm.brk) (c.pts.length:Int) (by rw [HV.out];rfl) rfl M10.out rfl (by simpa using HQ.out) (by rw [<-HBK.out];exact hbk) ?_
  intro A12 c12 w12 M12
  rw [<-HBK.out] at M12 ⊢
  have k2e:w12.cell? ⟨bc,2,none⟩=some (.slice (some ⟨bF,0,none⟩) d.opn.length cF):=M12.cell (k:=0) (j:=2) rfl rfl
  refine hK_ _ _ k2e ?_
  clear hK_
  obtain ⟨w13,s13,M13⟩:=M12.rowPut (k:=3) (q * 4+3) rfl (.slice A12 (bks.length+1) c12)
  have r4:w12.cell? ⟨bF,q * 4+3,none⟩=some (.slice Av bks.length nv):=by
   obtain ⟨bF',cF',e,_,hc⟩:=M12.rowForm (k:=3) rfl (by omega)
   simp only [Value.slice.injEq,Option.some.injEq,Addr.mk.injEq,and_true,true_and] at e
   obtain ⟨rfl,rfl⟩:=e
   exact hc _ _ ((HC.out 3 (by omega)).trans (by rw [HV.out];rfl))
  have r5:=(M12.row (k:=3) rfl).frozenAt (q * 4+3)
  have k2f:w13.cell? ⟨bc,2,none⟩=some (.slice (some ⟨bF,0,none⟩) d.opn.length cF):=M13.cell (k:=0) (j:=2) rfl rfl
  have M13:=ak_ M13
  clear M12
  iterate 2 ((first | (with_reducible refine wpT_nil ?_) | (refine wpT_W (v:=?_) (by assumption) (by decide) (wn_ rfl) (fun _ hS_=>?_) ?_;rotate_left;(focus ((try dsimp only at hS_);go_simp;rfl))) | (refine wpT_R (v:=?_) (by assumption) (by decide) (wn_ rfl) ?_ ?_;rotate_left;(focus (go_simp;rfl))) | (refine wpT_A (v:=?_) (ob:=?_) (by assumption) (by decide) (wn_ rfl) ?_ ?_ ?_;rotate_left 2;(focus (go_simp;first | (constructor <;> rfl) | rfl));(focus (apply cell_alloc;assumption))));(try simp only [Act.put,sA_,sB_,sC_]))
  refine wpT_L k2e (by decide) (wn_ rfl) (fun K_ hK_=>?_)
  go_simp
  refine hK_ _ _ k2f ?_
  clear hK_
  refine wpT_nil ?_
  go_wp2
  go_ret
  rw [HGE.out]
  refine ⟨rfl,⟨vS,.slice (some ⟨bF,0,none⟩) d.opn.length cF,ts',bs'.set q (.slice A12 (bks.length+1) c12)⟩,?_⟩
  have hfin:({ c.emit ⟨1,0,[]⟩ with opn:=addBrk c.opn q (c.pts.length:Int) }:Ks)={ d with opn:=addBrk d.opn q (c.pts.length:Int) }:=by rw [HD.out];rfl
  have hr2:(recs (d.opn.map Frm.cells) bs').set (q * 4+3) (.slice A12 (bks.length+1) c12)=recs (d.opn.map Frm.cells) (bs'.set q (.slice A12 (bks.length+1) c12)):=recs_set (m:=3) (by simp [HB2.out]) (frm_len _) (by simpa using HQ.out) _
  show Mem w0 w13 F (Ks.own { c.emit ⟨1,0,[]⟩ with opn:=addBrk c.opn q (c.pts.length:Int) } bc gv bm _)
  rw [hfin]
  unfold Ks.own
  simp only [addBrk_cells,addBrk_brk,addBrk_length]
  rw [<-hr2,<-HBK.out]
  exact M13.out.lose (k:=6) rfl
 ·have hkd':(kind == 5)=false:=by simpa using hkd
  have HGE:=ak_ (show c.leave kind 0 label kids=(true,(c.emit ⟨1,0,[]⟩).setTo c.pts.length [((c.opn[q]?).map Frm.start).getD 0]) by rw [HGD.out,if_neg hkd])
  clear hkd HGD
  go_enter Try.func74,Try.ntmps74
  go_wp2_with (first
   | (go_at_call 92;refine EN.out.mono ?_;rintro e w4 ⟨rfl,hb4⟩;have M4:=M1.out.below hb4;have e0':w4.cell? ⟨b3,0,none⟩=some (.int .i64 kind):=M4.cell (k:=6) (j:=0) rfl rfl;have e1':w4.cell? ⟨b3,1,none⟩=some (.int .i64 0):=M4.cell (k:=6) (j:=1) rfl rfl;have e3':w4.cell? ⟨b3,3,none⟩=some (.slice A kids.length n):=M4.cell (k:=6) (j:=3) rfl rfl;have M4:=ak_ M4;clear hb4)
   | (go_at_call 51;refine (add0 bc _ c bm _ 1 0 M4.out hst).mono ?_;rintro e w9 ⟨rfl,p9,M9⟩;have e0'':w9.cell? ⟨b3,0,none⟩=some (.int .i64 kind):=M9.cell (k:=6) (j:=0) rfl rfl;have M9:=ak_ M9))
  obtain ⟨vS,vF,ts',bs'⟩:=p9
  obtain ⟨d,hd⟩:∃ d,d=c.emit ⟨1,0,[]⟩:=⟨_,rfl⟩
  rw [<-hd] at M9
  have hdf:d.opn=c.opn:=by rw [hd];rfl
  have hds:d.pts.length=c.pts.length+1:=by rw [hd];simp [Ks.emit]
  have hql':(q:Int) < d.opn.length:=by rw [hdf];omega
  have hql2:q < d.opn.length:=by rw [hdf];exact hql
  obtain ⟨w10,z10,M10⟩:=M9.out.drew
  obtain ⟨bF,cF,e,hcF,hcell⟩:=M10.rowForm (k:=3) rfl (by omega)
  dsimp only at e
  subst e
  have hbl2:bs'.length=d.opn.length:=by have:=(M10.rows (k:=4) rfl).len;simpa using this
  obtain ⟨fq,hfq⟩:∃ fq,d.opn[q]?=some fq:=⟨_,List.getElem?_eq_getElem hql2⟩
  have hrec:∀ j,j<=3->(recs (d.opn.map Frm.cells) bs')[q * 4+j]?=(fq.cells++[bs'.getD q nilS])[j]?:=fun j hj=>by
   rw [recs_get (m:=3) (by simp [hbl2]) (frm_len _) (by simpa using hql2) hj]
   congr 2
   simp [List.getD_eq_getElem?_getD,hfq]
  have k2d:w10.cell? ⟨bc,2,none⟩=some (.slice (some ⟨bF,0,none⟩) d.opn.length cF):=M10.cell (k:=0) (j:=2) rfl rfl
  obtain ⟨st,hst2⟩:∃ st,st=fq.start:=⟨_,rfl⟩
  have HFQ:=ak_ hfq
  have r1:w10.cell? ⟨bF,q * 4+1,none⟩=some (.int .i64 st):=hcell _ _ ((hrec 1 (by omega)).trans (by rw [hst2];rfl))
  obtain ⟨n8,w11,z11,a11,M11⟩:=M10.one st
  have M11':=(M11.order [0,1,2,3,4,5,7,6] rfl)
  obtain ⟨bS,cS,w12,k1,s12,⟨u9',t12⟩,f12,M12⟩:=Mem.setToK (n:=c.pts.length) (xs:=[st]) (H:=[.blk b3 (.cells #[.int .i64 kind,.int .i64 0,.int .i64 label,.slice A kids.length n] 31 (0,0))]) M11' (by omega)
  have k1d:w10.cell? ⟨bc,1,none⟩=some (.slice (some ⟨bS,0,none⟩) d.pts.length cS):=by
   obtain ⟨A,nn,e⟩:=ownK_vS M10
   have h1:=pw_cell_below (below_alloc (Below.refl _ _) (.cells #[.int .i64 st] 3)) e
   rw [a11,k1] at h1
   rw [e,<-h1]
  have hsl:(c.pts.length:Int) < d.pts.length:=by omega
  have A8:=ak_ (And.intro a11 z11)
  have M12:=ak_ M12
  have HD:=ak_ hd
  have HDF:=ak_ hdf
  have HS2:=ak_ hst2
  clear hfq hrec hbl2 hd hdf hds hql hql2 M9 M4 M1 hcell hcF e0'' k2 M10 M11 M11' a11 z11 hst2
  go_wp2_with (first | (rw [z10]) | (refine wp_region_txt (fun _=>True) [] (by kernel_rfl) (by kernel_rfl) ?_))
  iterate 14 ((first | (with_reducible refine wpT_nil ?_) | (refine wpT_W (v:=?_) trivial (by decide) (wn_ rfl) (fun _ hS_=>?_) ?_;rotate_left;(focus ((try dsimp only at hS_);go_simp;rfl))) | (refine wpT_R (v:=?_) trivial (by decide) (wn_ rfl) ?_ ?_;rotate_left;(focus (go_simp;rfl))) | (refine wpT_A (v:=?_) (ob:=?_) trivial (by decide) (wn_ rfl) ?_ ?_ ?_;rotate_left 2;(focus (go_simp;first | (constructor <;> rfl) | rfl));(focus (exact trivial))));(try simp only [Act.put,sA_,sB_,sC_]))
  rw [A8.out.1,A8.out.2]
  iterate 2 ((first | (with_reducible refine wpT_nil ?_) | (refine wpT_W (v:=?_) trivial (by decide) (wn_ rfl) (fun _ hS_=>?_) ?_;rotate_left;(focus ((try dsimp only at hS_);go_simp;rfl))) | (refine wpT_R (v:=?_) trivial (by decide) (wn_ rfl) ?_ ?_;rotate_left;(focus (go_simp;rfl))) | (refine wpT_A (v:=?_) (ob:=?_) trivial (by decide) (wn_ rfl) ?_ ?_ ?_;rotate_left 2;(focus (go_simp;first | (constructor <;> rfl) | rfl));(focus (exact trivial))));(try simp only [Act.put,sA_,sB_,sC_]))
  (refine wpT_L trivial (by decide) (wn_ rfl) (fun K_ hK_=>?_);go_simp;refine hK_ _ _ trivial ?_;clear hK_)
  refine wpT_nil ?_
  go_wp2
  go_ret
  rw [HGE.out]
  refine ⟨rfl,?_⟩
  show ∃ p',Mem w0 w12 F (((c.emit ⟨1,0,[]⟩).setTo c.pts.length [((c.opn[q]?).map Frm.start).getD 0]).own bc gv bm p')
  have hq2:((c.opn[q]?).map Frm.start).getD 0=st:=by rw [<-HDF.out,HFQ.out,HS2.out];rfl
  rw [hq2,<-HD.out]
  exact ⟨_,M12.out.lose (k:=6) rfl⟩
end Go.Proofs.Ytfiiihpdekppiaa
end
