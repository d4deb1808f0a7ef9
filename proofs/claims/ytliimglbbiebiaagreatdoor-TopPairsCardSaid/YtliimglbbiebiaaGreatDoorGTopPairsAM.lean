/- A part of the proof: Pos, IdxRm, IdxF, From, Between, Sort02, Ref12, IdxQ. -/
import Derived.Test.YtliimglbbiebiaaGreatDoorGTopPairsAH
import Derived.Test.YtliimglbbiebiaaGreatDoorGTopPairsAI
import Derived.Laws.IdiomCopy
import Derived.Test.YtliimglbbiebiaaGreatDoorGTopPairsAL
import Derived.Test.YtliimglbbiebiaaGreatDoorGTopPairsAG
import Derived.Deep.RegionHeld3
import Derived.Deep.RegionLaw
import Derived.WalkKit
import Derived.WalkSpells
import Derived.WalkLawsBesides
import Derived.Deep.QuietTactic
import Derived.BigQuiet
import Derived.Lib.Hide
import Derived.Test.YtliimglbbiebiaaGreatDoorRows
import Derived.Test.YtliimglbbiebiaaGreatDoorGTopPairsAA
set_option maxRecDepth 100000
set_option maxHeartbeats 6400000
section
namespace Go.Proofs.YtliimglbbiebiaaGreatDoor
open Go.RowKit
def posAt (l:List Int) (uid:Int) (k:Nat):Int:=if l[k]? = some uid then (k:Int) + 1 else 0
theorem pos_any {base x:Nat} {w:World} {l:List Int} (h:IdxAt base w x l) (hl:l.length≤100000) (uid:Int) :
 Calls Tryz.prog 226 #[.pointer (some ⟨x,0,none⟩),.int .u32 uid] w fun e w'=>∃ k:Nat,e=.returned (.int .i64 (posAt l uid k))∧FindAt l uid k∧New w w':=by
 have HF:=Lib.hid (find_any h hl uid)
 have H:=Lib.hid h
 clear h
 go_enter Tryz.func226,Tryz.ntmps226
 go_wp2_with fail
 refine HF.out.mono ?_
 rintro e w1 ⟨k,rfl,hk,hn⟩
 have h1:=H.out.new hn
 obtain ⟨u,hb,hr⟩:=h1
 obtain ⟨A,c,rfl,hlc,hcells⟩:=hr.rd.ints
 have c0:=fun n=>((hb.drewN n).cell 0:(w1.drewN n).cell? ⟨x,0,none⟩=some (.slice A l.length c))
 have c00:w1.cell? ⟨x,0,none⟩=some (.slice A l.length c):=hb.cell 0
 have HK:=Lib.hid hk
 have hkl:=hk.1
 have HCL:=Lib.hid hcells
 clear hr hb hk hcells
 by_cases hlt:k < l.length
 · have hd:decide ((k:Int) < l.length)=true:=decide_eq_true (by omega)
   obtain ⟨y,hy⟩:∃ y,l[k]? = some y:=⟨_,List.getElem?_eq_getElem hlt⟩
   obtain ⟨b,off,rfl,hcell⟩:=HCL.out (by rintro rfl; simp at hlt)
   have cy:=hcell k y hy
   have cyn:∀ n,(w1.drewN n).cell? ⟨b,off + k,none⟩=some (.int .u32 y):=fun n=>cy
   have hkI:(k:Int) < l.length:=by omega
   have hw:IntKind.i64.wrap ((k:Int) + 1)=(k:Int) + 1:=IntWalk.i64_in _ (by omega)
   have HY:=Lib.hid hy
   clear hcell hy
   cases hq:(y == uid)
   · have HQ:=Lib.hid hq
     have hpos:posAt l uid k=0:=by
      unfold posAt
      rw [HY.out,if_neg (by intro e; injection e with e; subst e; simp at hq)]
     go_wp2
     go_ret
     exact ⟨k,by rw [hpos]; rfl,HK.out,by first | exact hn | exact hn.drewN _⟩
   · have HQ:=Lib.hid hq
     have hpos:posAt l uid k=(k:Int) + 1:=by
      unfold posAt
      rw [HY.out,if_pos (by have:y=uid:=by simpa using hq
                            rw [this])]
     go_wp2
     go_ret
     exact ⟨k,by rw [hpos]; rfl,HK.out,by first | exact hn | exact hn.drewN _⟩
 · have hd:decide ((k:Int) < l.length)=false:=decide_eq_false (by omega)
   have hpos:posAt l uid k=0:=by
    unfold posAt
    rw [List.getElem?_eq_none (by omega),if_neg (by simp)]
   go_wp2
   go_ret
   exact ⟨k,by rw [hpos]; rfl,HK.out,by first | exact hn | exact hn.drewN _⟩
end Go.Proofs.YtliimglbbiebiaaGreatDoor
end

section
namespace Go.Proofs.YtliimglbbiebiaaGreatDoor
open Go.RowKit
theorem Fr.setCells {S:Nat→Prop} {a w:World} (b:Nat) (hb:b < a.heap.size→S b):∀ (vs:List Value) (o:Nat),Fr S a w→Fr S a (w.setCells b o vs)
 | [],_,h=>h
 | v :: vs,o,h=>by
   have h1:Fr S a (w.setCell ⟨b,o,none⟩ v):=Fr.setCell h (p:=⟨b,o,none⟩) hb v
   exact Fr.setCells b hb vs (o + 1) h1
theorem Blk.setCells {g:Nat} {t:TypeId} (b:Nat):∀ (vs:List Value) (o:Nat) (w:World) (cs:Array Value),Blk w g t cs→∃ cs',Blk (w.setCells b o vs) g t cs'
 | [],_,_,cs,h=>⟨cs,h⟩
 | v :: vs,o,w,cs,h=>by
   by_cases hb:g=b
   · subst hb
     exact Blk.setCells g vs (o + 1) _ _ (h.set_ o v)
   · exact Blk.setCells b vs (o + 1) _ _ (h.far (p:=⟨b,o,none⟩) hb v)
section
variable {P:Program} {base:Nat} {w:World} {l:List Int}
theorem run_close_urow (t ty:TypeId) (hu:P.underlying t=some (.slice 28)) (hs:(P.info? 28).map (·.size)=some 1) {g off c:Nat} (h:URow base w (.slice (some ⟨g,off,none⟩) l.length c) l) (k:Nat) (hk:k < l.length) (A:Option Addr) (hA:k + 1 < l.length→A=some ⟨g,off + (k + 1),none⟩) (cc:Nat) :
 ∃ w',(Builtin.copy_ #[t,t] ty #[.slice (some ⟨g,off + k,none⟩) (l.length - k) (c - k),.slice A (l.length - (k + 1)) cc]).run P w=.ok (.int .i64 (l.length - (k + 1):Nat)) w' ∧
   URow base w' (.slice (some ⟨g,off,none⟩) (l.length - 1) c) (l.eraseIdx k)∧Fr (fun b=>b=g) w w':=by
 have hrow:=h
 rcases h with ⟨h,_⟩ | ⟨g',off',c',he,hb,hgl,hlc,hcm,hcells,hj⟩
 · cases h
 cases he
 have hel:(l.eraseIdx k).length=l.length - 1:=List.length_eraseIdx_of_lt hk
 by_cases hlast:k + 1=l.length
 · have hrun:=run_copy_none (P:=P) w t t ty 28 (some ⟨g,off + k,none⟩) A (l.length - k) (c - k) (l.length - (k + 1)) cc hu hs (by rw [show l.length - (k + 1)=0 by omega]; simp)
   refine ⟨w,?_,?_,Fr.refl _ _⟩
   · rw [hrun,show l.length - (k + 1)=0 by omega]; rfl
   · refine .inr ⟨g,off,c,by rw [hel],hb,hgl,by omega,hcm,fun i x hx=>hcells i x ?_,hj⟩
     rw [List.getElem?_eraseIdx] at hx
     split at hx
     · exact hx
     · have:=(List.getElem?_eq_some_iff.1 hx).1; omega
 · obtain rfl:=hA (by omega)
   have hcl:((l.drop (k + 1)).map (Value.int .u32)).length=l.length - (k + 1):=by simp
   have hsrc:∀ j v,((l.drop (k + 1)).map (Value.int .u32))[j]? = some v→w.cell? ((⟨g,off + (k + 1),none⟩:Addr).add j)=some v:=by
    intro j v hv
    rw [List.getElem?_map,List.getElem?_drop] at hv
    obtain ⟨x,hx,rfl⟩:=Option.map_eq_some_iff.1 hv
    rw [Addr.add_lit,Nat.add_assoc]
    exact hcells _ x hx
   have hcs:∀ j,j < ((l.drop (k + 1)).map (Value.int .u32)).length→(w.cell? ⟨g,off + k + j,none⟩).isSome=true:=by
    intro j hj'
    obtain ⟨z,hz⟩:=(hj (k + j) (by omega)).1
    rw [Nat.add_assoc,hz]
    rfl
   have hfz:∀ j,j < ((l.drop (k + 1)).map (Value.int .u32)).length→w.frozen? ⟨g,off + k + j,none⟩=false:=by
    intro j hj'
    rw [Nat.add_assoc]
    exact (hj (k + j) (by omega)).2
   have hrun:=run_copy_cells (P:=P) w t t ty 28 g (off + k) (l.length - k) (c - k) ⟨g,off + (k + 1),none⟩ (l.length - (k + 1)) cc _ hu hs (by rw [hcl]; exact (Nat.min_eq_left (by omega)).symm) hsrc hcs hfz (by
    intro v hv
    obtain ⟨x,_,rfl⟩:=List.mem_map.1 hv
    rfl)
   refine ⟨_,by rw [hrun,hcl]; rfl,?_,Fr.setCells (S:=fun b=>b=g) g (fun _=>rfl) _ _ (Fr.refl _ w)⟩
   have hfr:Fr (fun b=>b=g) w (w.setCells g (off + k) ((l.drop (k + 1)).map (Value.int .u32))):=Fr.setCells (S:=fun b=>b=g) g (fun _=>rfl) _ _ (Fr.refl _ w)
   have hsz:=hfr.size
   refine .inr ⟨g,off,c,by rw [hel],hb,by obtain ⟨cs,hgl⟩:=hgl; exact Blk.setCells _ _ _ _ _ hgl,by omega,hcm,fun i x hx=>?_,fun j hjc=>⟨?_,?_⟩⟩
   · rw [List.getElem?_eraseIdx] at hx
     split at hx
     · rw [World.cell?_setCells_out g _ _ _ _ (fun _ _=>Or.inl (by show off + i < off + k; omega))]
       exact hcells i x hx
     · have hil:i + 1 < l.length:=(List.getElem?_eq_some_iff.1 hx).1
       have:=World.cell?_setCells_in g ((l.drop (k + 1)).map (Value.int .u32)) (off + k) w hcs (i - k) (by rw [hcl]; omega)
       rw [show off + k + (i - k)=off + i by omega] at this
       rw [this]
       have h2:(l.drop (k + 1))[i - k]? = some x:=by rw [List.getElem?_drop,show k + 1 + (i - k)=i + 1 by omega]; exact hx
       have h3:((l.drop (k + 1)).map (Value.int .u32))[i - k]? = some (.int .u32 x):=by rw [List.getElem?_map,h2]; rfl
       rw [List.getElem?_eq_some_iff] at h3
       exact congrArg some h3.2
   · by_cases hin:k≤j∧j < l.length - 1
     · have:=World.cell?_setCells_in g ((l.drop (k + 1)).map (Value.int .u32)) (off + k) w hcs (j - k) (by rw [hcl]; omega)
       rw [show off + k + (j - k)=off + j by omega] at this
       exact ⟨_,this⟩
     · obtain ⟨z,hz⟩:=(hj j hjc).1
       refine ⟨z,?_⟩
       rw [World.cell?_setCells_out g _ _ _ _ (fun _ _=>?_)]
       · exact hz
       · rw [hcl]
         by_cases hkj:j < k
         · exact Or.inl (by show off + j < off + k; omega)
         · exact Or.inr (by show off + k + (l.length - (k + 1))≤off + j; omega)
   · rw [World.frozen?_setCells]
     exact (hj j hjc).2
variable {ops:Array Oper} {o:Oper} {a:Act} {K:Act→World→Prop} {Q:Exit→Act→World→Prop}
theorem step_close_urow {F:Prop} (hgd:o.guard=none) (s x:Operand) (t:TypeId) (ho:o.op=.call { callee:=.builtin .copy,args:=#[s,x],argTypes:=#[t,t] })
 (hu:P.underlying t=some (.slice 28)) (hs:(P.info? 28).map (·.size)=some 1) {g off c:Nat} (h:URow base w (.slice (some ⟨g,off,none⟩) l.length c) l) (k:Nat) (hk:k < l.length) (A:Option Addr) (hA:k + 1 < l.length→A=some ⟨g,off + (k + 1),none⟩) (cc:Nat)
 (n2 m:Nat) (h2:l.length - (k + 1)=n2) (h3:l.length - 1=m)
 (hd:a.eval s=.slice (some ⟨g,off + k,none⟩) (l.length - k) (c - k)) (hx:a.eval x=.slice A (l.length - (k + 1)) cc)
 (hK:∀ w',URow base w' (.slice (some ⟨g,off,none⟩) m c) (l.eraseIdx k)→Fr (fun b=>b=g) w w'→K (a.put o.dst (.int .i64 n2)) w') :
 if Region.wanted o (yielded ops a.tmps)=true then Oper.wp P o a w K Q else F:=by
 subst h2 h3
 have hw:Region.wanted o (yielded ops a.tmps)=true:=by simp [Region.wanted,hgd]
 rw [if_pos hw]
 obtain ⟨w',hr,h1,h2⟩:=run_close_urow (P:=P) t o.type hu hs h k hk A hA cc
 unfold Oper.wp execOp
 simp only [ho,resolve,invoke,builtin,Sem.run_bind,Sem.run_pure,Result.andThen_ok,List.map_toArray,List.map_cons,List.map_nil,hd,hx,hr]
 exact hK w' h1 h2
end
def rmOf (l:List Int) (uid:Int) (k:Nat):List Int:=if l[k]? = some uid then l.eraseIdx k else l
theorem size1:(Tryz.prog.info? 28).map (·.size)=some 1:=by kernel_rfl
theorem irm_any {base x:Nat} {w:World} {u:Value} {l:List Int} (h:IdxU base w x u l) (hl:l.length≤100000) (uid:Int) :
 Calls Tryz.prog 194 #[.pointer (some ⟨x,0,none⟩),.int .u32 uid] w fun e w'=>∃ (k:Nat) (u':Value),e=.returned (.int .i64 (posAt l uid k))∧FindAt l uid k∧IdxU base w' x u' (rmOf l uid k)∧IFr x u w w'∧Stays w u u':=by
 have HF:=Lib.hid (pos_any h.at_ hl uid)
 have H:=Lib.hid h
 obtain ⟨A,c,rfl,hlc⟩:=h.2.1.form
 have c0:w.cell? ⟨x,0,none⟩=some (.slice A l.length c):=h.1.cell 0
 have f0:w.frozen? ⟨x,0,none⟩=false:=h.1.frozen 0
 clear h
 go_enter Tryz.func194,Tryz.ntmps194
 go_wp2_with fail
 refine HF.out.mono ?_
 rintro e w1 ⟨k,rfl,hk,hn1⟩
 have H1:=Lib.hid (H.out.new hn1)
 have HK:=Lib.hid hk
 have hkl:=hk.1
 clear hk
 by_cases hq:l[k]? = some uid
 · have hkl2:k < l.length:=(List.getElem?_eq_some_iff.1 hq).1
   have hpos:posAt l uid k=(k:Int) + 1:=if_pos hq
   have hrm:rmOf l uid k=l.eraseIdx k:=if_pos hq
   have HP:=Lib.hid hpos
   have HR:=Lib.hid hrm
   rw [hpos]
   obtain ⟨g,off,rfl,-⟩:∃ g off,A=some ⟨g,off,none⟩∧True:=by
    obtain ⟨A',c',he,_,hcells⟩:=H1.out.2.1.rd
    cases he
    obtain ⟨b,off,rfl,_⟩:=hcells (by rintro rfl; simp at hkl2)
    exact ⟨b,off,rfl,trivial⟩
   have c1:∀ n,(w1.drewN n).cell? ⟨x,0,none⟩=some (.slice (some ⟨g,off,none⟩) l.length c):=fun n=>H1.out.1.cell 0
   have c10:w1.cell? ⟨x,0,none⟩=some (.slice (some ⟨g,off,none⟩) l.length c):=c1 0
   have hw1:IntKind.i64.wrap ((k:Int) + 1 - 1)=k:=by rw [IntWalk.i64_in _ (by omega)]; omega
   have hw2:(k:Int) + 1 - 1=k:=by omega
   have hw3:IntKind.i64.wrap (k:Int)=k:=IntWalk.i64_in _ (by omega)
   have hck:c≠k:=by omega
   have hp0:decide ((0:Int) < (k:Int) + 1)=true:=decide_eq_true (by omega)
   have b1:(0:Int)≤(k:Int):=by omega
   have b2:(k:Int)≤(l.length:Int):=by omega
   have b3:(k:Int)≤(c:Int):=by omega
   have b4:(0:Int)≤(k:Int) + 1:=by omega
   have b5:(k:Int) + 1≤(l.length:Int):=by omega
   have b6:(k:Int) + 1≤(c:Int):=by omega
   have b7:((k:Int) + 1).toNat=k + 1:=by omega
   clear hpos hrm hq
   go_wp2_with fail
   obtain ⟨n3,hn3⟩:∃ n3,l.length - (k + 1)=n3:=⟨_,rfl⟩
   obtain ⟨m,hm⟩:∃ m,l.length - 1=m:=⟨_,rfl⟩
   have hsum:IntKind.i64.wrap ((k:Int) + (n3:Int))=(m:Int):=by rw [IntWalk.i64_in _ (by omega)]; omega
   have hsum2:(k:Int) + (n3:Int)=(m:Int):=by omega
   have hmc:m≤c:=by omega
   have hm0:(0:Int)≤(m:Int):=by omega
   have hmI:(m:Int)≤(c:Int):=by omega
   have hmw:IntKind.i64.wrap (m:Int)=(m:Int):=IntWalk.i64_in _ (by omega)
   have hxb:=H1.out.1.lt
   have HN3:=Lib.hid hn3
   have HM:=Lib.hid hm
   have HXG:=Lib.hid (fun (e:x=g)=>H1.out.2.2 (by rw [e]; rfl))
   clear hn3 hm
   go_region_held3 (fun w'=>w'.cell? ⟨x,0,none⟩=some (.slice (some ⟨g,off,none⟩) l.length c)) (first | go_keep | assumption)
    ((first
      | (refine step_close_urow (by rfl) (.tmp 20) (.tmp 26) 58 (by rfl) Tryz.underlying58 size1 (g:=g) (off:=off) (c:=c) (H1.out.2.1.new (New.refl _).drew) k hkl2 (if c=k + 1 then some ⟨g,off,none⟩ else some ⟨g,off + (k + 1),none⟩) (fun h=>if_neg (by omega)) (c - (k + 1)) n3 m HN3.out HM.out (by rfl) (by rfl) ?_
         intro w2 hr2 hf2
         have b2:=Lib.hid (Fr.blk hf2 H1.out.1 HXG.out)
         have c2:w2.cell? ⟨x,0,none⟩=some (.slice (some ⟨g,off,none⟩) l.length c):=b2.out.cell 0
         have f2:w2.frozen? ⟨x,0,none⟩=false:=b2.out.frozen 0)
      | fail))
   all_goals go_wp2
   all_goals go_ret
   all_goals (
    refine ⟨k,by rw [HP.out]; rfl,HK.out,?_⟩
    first
     | (have hce:c=k + 1:=by assumption
        subst hce
        refine ⟨.slice (some ⟨g,off,none⟩) m (k + 1),?_,?_,.inl rfl⟩)
     | (refine ⟨.slice (some ⟨g,off,none⟩) m c,?_,?_,.inl rfl⟩)
    · rw [HR.out]
      refine ⟨?_,?_,H1.out.2.2⟩
      · exact b2.out.set_ 0 _
      · exact hr2.fr (Fr.setCell (S:=fun k=>k=x) (p:=⟨x,0,none⟩) (Fr.refl _ w2) (fun _=>rfl) _) fun b hb e=>H1.out.2.2 (e ▸ hb)
    · have h1:IFr x (.slice (some ⟨g,off,none⟩) l.length 0) w w2:=Fr.trans' (New.to hn1.drew) hf2 fun i _ h=>.inr (by rw [h]; rfl)
      exact Fr.setCell h1 (fun _=>.inl rfl) _)
 · have hpos:posAt l uid k=0:=if_neg hq
   have hrm:rmOf l uid k=l:=if_neg hq
   have HP:=Lib.hid hpos
   have HR:=Lib.hid hrm
   rw [hpos]
   clear hpos hrm hq
   go_wp2
   go_ret
   exact ⟨k,_,by rw [HP.out]; rfl,HK.out,by rw [HR.out]; exact H1.out,New.to hn1,.inl rfl⟩
end Go.Proofs.YtliimglbbiebiaaGreatDoor
end

section
namespace Go.Proofs.YtliimglbbiebiaaGreatDoor
open Go.RowKit
theorem Asc.filter {s:List Int} (h:Asc s) (p:Int→Bool):Asc (s.filter p):=List.Pairwise.filter p h
theorem eraseIdx_filter {s:List Int} (h:Asc s) {k:Nat} {u:Int} (hk:s[k]? = some u):s.eraseIdx k=s.filter fun y=>y != u:=by
 induction s generalizing k with
 | nil=>simp at hk
 | cons x s ih =>
   cases k with
   | zero =>
     obtain rfl:x=u:=by simpa using hk
     rw [List.eraseIdx_cons_zero,List.filter_cons]
     simp only [bne_self_eq_false,Bool.false_eq_true,if_false]
     exact (List.filter_eq_self.2 fun y hy=>by have:=h.head hy; simp; omega).symm
   | succ k =>
     have hk':s[k]? = some u:=by simpa using hk
     have:=h.head (List.mem_of_getElem? hk')
     rw [List.eraseIdx_cons_succ,ih h.tail hk',List.filter_cons]
     have hxu:(x != u)=true:=by simp; omega
     rw [if_pos hxu]
theorem rmOf_eq {s:List Int} (h:Asc s) {uid:Int} {k:Nat} (hk:FindAt s uid k):rmOf s uid k=s.filter fun y=>y != uid:=by
 unfold rmOf
 split
 · rename_i h1
   exact eraseIdx_filter h h1
 · rename_i h1
   refine (List.filter_eq_self.2 fun y hy=>?_).symm
   have:y≠uid:=by
    rintro rfl
    exact h1 ((hk.mem h).1 hy)
   simpa using this
end Go.Proofs.YtliimglbbiebiaaGreatDoor
end

section
namespace Go.Proofs.YtliimglbbiebiaaGreatDoor
open Go.RowKit Go.Shelf Go.Proofs
end Go.Proofs.YtliimglbbiebiaaGreatDoor
end

section
namespace Go.Proofs.YtliimglbbiebiaaGreatDoor
open Go.RowKit Go.Shelf Go.Proofs
attribute [local go_sem] Oper.semAt_some
end Go.Proofs.YtliimglbbiebiaaGreatDoor
end

section
namespace Go.Proofs.YtliimglbbiebiaaGreatDoor
open Go.RowKit
end Go.Proofs.YtliimglbbiebiaaGreatDoor
end

section
namespace Go.Proofs.YtliimglbbiebiaaGreatDoor
open Go.RowKit
end Go.Proofs.YtliimglbbiebiaaGreatDoor
end

section
namespace Go.Proofs.YtliimglbbiebiaaGreatDoor
open Go.RowKit
def appP (s:List Int) (uid:Int):List Int × Bool:=if uid=0∨∃ y,s.getLast? = some y∧uid≤y then (s,false) else (s ++ [uid],true)
theorem Asc.last {s:List Int} (h:Asc s) {y z:Int} (hy:s.getLast? = some y) (hz:z ∈ s):z≤y:=by
 obtain ⟨i,hi⟩:=List.mem_iff_getElem?.1 hz
 have hl:=(List.getElem?_eq_some_iff.1 hi).1
 rw [List.getLast?_eq_getElem?] at hy
 by_cases he:i=s.length - 1
 · subst he; rw [hi] at hy; cases hy; omega
 · have:=h.get hi hy (by omega); omega
theorem appOf_eq {s:List Int} (h:Asc s) {uid:Int} {k:Nat} (hk:FindAt s uid k):appOf s uid k=appP s uid:=by
 unfold appOf appP
 have hiff:k < s.length ↔ ∃ y,s.getLast? = some y∧uid≤y:=by
  constructor
  · intro hlt
    rcases hk.2.2 with h1 | ⟨y,hy,hu⟩
    · omega
    · obtain ⟨z,hz⟩:∃ z,s.getLast? = some z:=by
       rw [List.getLast?_eq_getElem?]
       exact ⟨_,List.getElem?_eq_getElem (by omega)⟩
      exact ⟨z,hz,Int.le_trans hu (h.last hz (List.mem_of_getElem? hy))⟩
  · rintro ⟨y,hy,hu⟩
    rw [List.getLast?_eq_getElem?] at hy
    have hl:=(List.getElem?_eq_some_iff.1 hy).1
    rcases Nat.lt_or_ge (s.length - 1) k with h1 | h1
    · have:=(hk.below h hy).1 h1; omega
    · omega
 by_cases h1:uid=0∨k < s.length
 · rw [if_pos h1,if_pos (h1.imp id hiff.1)]
 · rw [if_neg h1,if_neg (fun h2=>h1 (h2.imp id hiff.2))]
theorem Asc.app {s:List Int} (h:Asc s) (uid:Int):Asc (appP s uid).1:=by
 unfold appP
 split
 · exact h
 · rename_i hn
   refine List.pairwise_append.2 ⟨h,by simp,fun a ha b hb=>?_⟩
   rw [List.mem_singleton.1 hb]
   obtain ⟨z,hz⟩:∃ z,s.getLast? = some z:=by
    cases s with
    | nil=>simp at ha
    | cons x s=>exact ⟨_,List.getLast?_cons⟩
   have h1:=h.last hz ha
   rcases Int.lt_or_le a uid with h2 | h2
   · exact h2
   · exact absurd (.inr ⟨z,hz,by omega⟩) hn
theorem appP_length (s:List Int) (uid:Int):(appP s uid).1.length≤s.length + 1:=by
 unfold appP
 split
 · simp
 · simp
theorem idxOf_len (l:List Int):(idxOf l).length≤l.length:=by
 have h:=compactP_le (l.mergeSort fun x y=>decide (x≤y))
 rw [List.length_mergeSort] at h
 unfold idxOf
 split
 · simp
 · rename_i x t hc
   rw [hc] at h
   simp at h
   split
   · omega
   · simp; omega
section
variable {base x:Nat} {w:World} {u:Value} {s:List Int}
theorem qnew {v:Value} {l:List Int} (hv:Rd (intE .u32) w v l) (hl:l.length≤1000) :
 Calls Tryz.prog 37 #[v] w fun e w'=>∃ x u,e=.returned (.pointer (some ⟨x,0,none⟩))∧w.heap.size≤x∧IdxU w.heap.size w' x u (idxOf l)∧New w w' :=
 (inew_any hv hl).mono fun _ _ ⟨x,u,h1,h2,h3,h4,h5,h6⟩=>⟨x,u,h1,h2,⟨h3,h4,h5⟩,h6⟩
theorem qpos (h:IdxU base w x u s) (ha:Asc s) (hl:s.length≤100000) (uid:Int) :
 Calls Tryz.prog 226 #[.pointer (some ⟨x,0,none⟩),.int .u32 uid] w fun e w'=>e=.returned (.int .i64 (placeOf s uid))∧New w w' :=
 (pos_any h.at_ hl uid).mono fun _ _ ⟨k,h1,h2,h3⟩=>⟨by rw [h1]; exact congrArg (fun z=>Ending.returned (.int .i64 z)) (posAt_place ha h2),h3⟩
theorem qrm (h:IdxU base w x u s) (ha:Asc s) (hl:s.length≤100000) (uid:Int) :
 Calls Tryz.prog 194 #[.pointer (some ⟨x,0,none⟩),.int .u32 uid] w fun e w'=>∃ u',e=.returned (.int .i64 (placeOf s uid))∧IdxU base w' x u' (s.filter fun y=>y != uid)∧IFr x u w w'∧Stays w u u' :=
 (irm_any h hl uid).mono fun _ _ ⟨k,u',h1,h2,h3,h4,h5⟩=>⟨u',by rw [h1]; exact congrArg (fun z=>Ending.returned (.int .i64 z)) (posAt_place ha h2),by rw [← rmOf_eq ha h2]; exact h3,h4,h5⟩
theorem qapp (h:IdxU base w x u s) (ha:Asc s) (hb:base≤w.heap.size) (hl:s.length≤100000) (uid:Int) :
 Calls Tryz.prog 189 #[.pointer (some ⟨x,0,none⟩),.int .u32 uid] w fun e w'=>∃ u',e=.returned (.bool (appP s uid).2)∧IdxU base w' x u' (appP s uid).1∧IFr x u w w'∧Stays w u u' :=
 (iapp_any h hb hl uid).mono fun _ _ ⟨k,u',h1,h2,h3,h4,h5⟩=>⟨u',by rw [h1,appOf_eq ha h2],by rw [← appOf_eq ha h2]; exact h3,h4,h5⟩
end
end Go.Proofs.YtliimglbbiebiaaGreatDoor
end

