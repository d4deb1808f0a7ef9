/- A part of the proof: IdxApp, Ev, SqueezeP, Split, Squeeze, SqueezeW, EvEq, Queue, Uid, Store. -/
import Derived.Test.YtliimglbbiebiaaGreatDoorGTopPairsAH
import Derived.Deep.RegionHeld3
import Derived.Deep.AppendSrc
import Derived.Test.YtliimglbbiebiaaGreatDoorRows
import Derived.Test.YtliimglbbiebiaaGreatDoorGTopPairsAA
import Derived.WalkKit
import Derived.WalkSpells
import Derived.WalkLawsBesides
import Derived.Deep.QuietTactic
import Derived.BigQuiet
import Derived.Shelf.Abstract
import Derived.DeepKeys4
import Derived.KernelRfl
import Derived.ProofKit
import Derived.Lib.SmallJoins
import Derived.MapViews
import Derived.Maps.OwnOps
import Derived.Deep.DeepMust
import Derived.Laws.StructEq
import Derived.Deep.RegionWith
import Derived.StillTailTactics
import Derived.Deep.DeepFit
import Derived.Test.YtliimglbbiebiaaGreatDoorGTopPairsAG
import Derived.Test.YtliimglbbiebiaaGreatDoorGTopPairsAC
set_option maxRecDepth 100000
set_option maxHeartbeats 6400000
section
namespace Go.Proofs.YtliimglbbiebiaaGreatDoor
open Go.RowKit
section
variable {P:Program} {base:Nat} {w:World} {v:Value} {l:List Int}
theorem run_push_urow (t ty:TypeId) {i:TypeInfo} {bytes:Nat} (ht:P.underlying t=some (.slice 28)) (hi:P.info? 28=some i) (hz:i.zero=some (.int .u32 0)) (hsize:i.size=1) (hby:i.bytes=bytes) (hby2:bytes≤8)
 (h:URow base w v l) (y:Int) (g:Nat) (hg:Blk w g 28 #[.int .u32 y]) (c:Nat) (hl:l.length≤1000000) (hbase:base≤w.heap.size) :
 ∃ v' w',(Builtin.append_ #[t,t] ty #[v,.slice (some ⟨g,0,none⟩) 1 c]).run P w=.ok v' w'∧URow base w' v' (l ++ [y])∧Fr (fun k=>v.ownBlock=some k) w w'∧(∃ A n c,v'=.slice A n c)∧(v'.ownBlock=v.ownBlock∨v'.ownBlock=some w.heap.size):=by
 have hsrc:Src P i.size t (.slice (some ⟨g,0,none⟩) 1 c) 1 [.int .u32 y] w:=by
  refine Src.ofSlice w ht ⟨g,0,none⟩ 1 c _ (by simp [hsize]) (fun j u hu=>?_) (by simp [Value.oneCell'])
  rw [Addr.add_lit,hg.cell]
  simpa using hu
 have grow:∀ (A:Option Addr) (cp:Nat),v=.slice A l.length cp→cp < l.length + 1→(Builtin.firstCells i.size l.length v).run P w.drew=.ok (l.map (Value.int .u32)).toArray w.drew →
  ∃ v' w',(Builtin.append_ #[t,t] ty #[v,.slice (some ⟨g,0,none⟩) 1 c]).run P w=.ok v' w'∧URow base w' v' (l ++ [y])∧Fr (fun k=>v.ownBlock=some k) w w'∧(∃ A n c,v'=.slice A n c)∧(v'.ownBlock=v.ownBlock∨v'.ownBlock=some w.heap.size):=by
  rintro A cp rfl hcp hold
  have hge:=grownCap_ge w (l.length + 1) cp 28
  have hle:=grownCap_le_maxLen w (l.length + 1) cp 28 (by unfold maxLen; omega)
  have hrun:=run_append_grow_src (P:=P) w t t ty 28 i (.int .u32 0) ht hi hz A l.length cp _ hold _ 1 _ hsrc hcp (by omega) (growslice_fits hcp (by
   have h1:(l.length + 1) * i.bytes≤1000001 * 8:=Nat.mul_le_mul (by omega) (by omega)
   omega))
  have hcn:∀ j,(w.drew.alloc (.cells ((l.map (Value.int .u32) ++ [Value.int .u32 y]).toArray ++ Builtin.zeroCells (Value.int .u32 0).cells (grownCap w (l.length + 1) cp 28 - (l.length + 1))) 28)).cell? ⟨w.heap.size,j,none⟩=((l.map (Value.int .u32) ++ [Value.int .u32 y]).toArray ++ Builtin.zeroCells (Value.int .u32 0).cells (grownCap w (l.length + 1) cp 28 - (l.length + 1)))[j]?:=fun j=>World.cell?_alloc_new w.drew _ _ j
  refine ⟨_,_,hrun,?_,((Fr.refl _ w).drew).alloc _,⟨_,_,_,rfl⟩,.inr rfl⟩
  refine .inr ⟨w.heap.size,0,_,by rw [List.length_append]; rfl,hbase,⟨_,Blk.new w.drew _ _⟩,by rw [List.length_append]; exact hge,hle,fun j x hx=>?_,fun j hj=>⟨?_,?_⟩⟩
  · rw [Nat.zero_add,hcn]
    rw [Array.getElem?_append_left (by
     have:=(List.getElem?_eq_some_iff.1 hx).1
     simp only [List.length_append,List.length_singleton] at this
     simp
     omega),List.getElem?_toArray]
    have e1:l.map (Value.int .u32) ++ [Value.int .u32 y]=(l ++ [y]).map (Value.int .u32):=by simp
    rw [e1,List.getElem?_map,hx]
    rfl
  · rw [Nat.zero_add,hcn]
    refine ⟨_,Array.getElem?_eq_getElem ?_⟩
    rw [Array.size_append,size_zeroCells]
    simp [Value.cells]
    omega
  · exact World.frozen?_alloc_new w.drew _ _ _
 rcases h with ⟨rfl,rfl⟩ | ⟨gb,off,cp,rfl,hb,hgl,hlc,hcm,hcells,hj⟩
 · exact grow none 0 rfl (by simp) (run_firstCells_none _ _ _ _ _)
 · by_cases hroom:l.length + 1≤cp
   · obtain ⟨⟨z,hz⟩,hf⟩:=hj l.length (by omega)
     have hrun:=run_append_room_src (P:=P) w t t ty 28 i ht hi gb off l.length cp _ 1 _ hsrc hroom
      (fun j hj'=>by
        obtain rfl:j=0:=by simpa using hj'
        rw [hsize,Nat.mul_one,Nat.add_zero,hz]; rfl)
      (fun j hj'=>by
        obtain rfl:j=0:=by simpa using hj'
        rw [hsize,Nat.mul_one,Nat.add_zero,hf])
     rw [hsize,Nat.mul_one] at hrun
     refine ⟨_,_,hrun,?_,?_,⟨_,_,_,rfl⟩,.inl rfl⟩
     · refine .inr ⟨gb,off,cp,by rw [List.length_append]; rfl,hb,by obtain ⟨cs,hgl⟩:=hgl; exact ⟨_,hgl.set_ _ _⟩,by rw [List.length_append]; exact hroom,hcm,fun j x hx=>?_,fun j hjc=>⟨?_,?_⟩⟩
       · simp only [World.setCells]
         by_cases hjl:j=l.length
         · subst hjl
           have hxy:x=y:=by simpa using hx.symm
           subst hxy
           exact World.cell?_setCell_same _ _ _ (by rw [hz] <;> rfl)
         · rw [World.cell?_setCell_other _ _ _ _ (by simp <;> omega)]
           have hjl2:j < l.length:=by have:=(List.getElem?_eq_some_iff.1 hx).1; simp at this; omega
           rw [List.getElem?_append_left hjl2] at hx
           exact hcells j x hx
       · simp only [World.setCells]
         obtain ⟨⟨z',hz'⟩,_⟩:=hj j hjc
         by_cases hjl:j=l.length
         · subst hjl
           exact ⟨_,World.cell?_setCell_same _ _ _ (by rw [hz] <;> rfl)⟩
         · rw [World.cell?_setCell_other _ _ _ _ (by simp <;> omega)]
           exact ⟨z',hz'⟩
       · simp only [World.setCells,World.frozen?_setCell]
         exact (hj j hjc).2
     · simp only [World.setCells]
       exact Fr.setCell (S:=fun k=>Value.ownBlock (.slice (some ⟨gb,off,none⟩) l.length cp)=some k) (p:=⟨gb,off + l.length,none⟩) (Fr.refl _ w) (fun _=>rfl) _
   · refine grow (some ⟨gb,off,none⟩) cp rfl (by omega) ?_
     refine run_firstCells_some (P:=P) w.drew i.size l.length ⟨gb,off,none⟩ l.length cp _ (by simp [hsize]) fun j u hu=>?_
     rw [List.getElem?_map] at hu
     obtain ⟨x,hx,rfl⟩:=Option.map_eq_some_iff.1 hu
     rw [Addr.add_lit]
     exact hcells j x hx
variable {ops:Array Oper} {rest:List Oper} {o:Oper} {a:Act} {Q:Exit→Act→World→Prop}
theorem wpList_push_urow (hgd:o.guard=none) (s x:Operand) (t:TypeId) (ho:o.op=.call { callee:=.builtin .append,args:=#[s,x],argTypes:=#[t,t] })
 {i:TypeInfo} {bytes:Nat} (ht:P.underlying t=some (.slice 28)) (hi:P.info? 28=some i) (hz:i.zero=some (.int .u32 0)) (hsize:i.size=1) (hby:i.bytes=bytes) (hby2:bytes≤8)
 (h:URow base w v l) (hs:a.eval s=v) (y:Int) (g:Nat) (hg:Blk w g 28 #[.int .u32 y]) (c:Nat) (hx:a.eval x=.slice (some ⟨g,0,none⟩) 1 c) (hl:l.length≤1000000) (hbase:base≤w.heap.size)
 (hK:∀ A n c w',URow base w' (.slice A n c) (l ++ [y])→Fr (fun k=>v.ownBlock=some k) w w'→Hid (Value.ownBlock (.slice A n c)=v.ownBlock∨Value.ownBlock (.slice A n c)=some w.heap.size)→wpList P ops Q rest (a.put o.dst (.slice A n c)) w') :
 wpList P ops Q (o :: rest) a w:=by
 obtain ⟨v',w',hr,h1,h2,⟨A,n,c,rfl⟩,h3⟩:=run_push_urow (P:=P) t o.type ht hi hz hsize hby hby2 h y g hg c hl hbase
 refine wpList_plain hgd fun K' hK'=>?_
 unfold Oper.wp execOp
 simp only [ho,resolve,invoke,builtin,Sem.run_bind,Sem.run_pure,Result.andThen_ok,List.map_toArray,List.map_cons,List.map_nil,hs,hx,hr]
 exact hK' _ _ (hK A n c w' h1 h2 h3)
end
theorem findAt_ex (l:List Int) (u:Int):∃ k,FindAt l u k:=by
 suffices h:∀ n k,l.length - k=n→k≤l.length→(k=0∨∃ y,l[k - 1]? = some y∧¬ u≤y)→∃ k,FindAt l u k from h _ 0 rfl (Nat.zero_le _) (.inl rfl)
 intro n
 induction n with
 | zero =>
   intro k hk hkl h1
   exact ⟨k,hkl,h1,.inl (by omega)⟩
 | succ n ih =>
   intro k hk hkl h1
   have h2:k < l.length:=by omega
   obtain ⟨y,hy⟩:∃ y,l[k]? = some y:=⟨_,List.getElem?_eq_getElem h2⟩
   have h3:l.length - (k + 1)=n:=by clear h1; omega
   by_cases hu:u≤y
   · exact ⟨k,hkl,h1,.inr ⟨y,hy,hu⟩⟩
   · exact ih (k + 1) h3 h2 (.inr ⟨y,by simpa using hy,hu⟩)
def appOf (l:List Int) (uid:Int) (k:Nat):List Int × Bool:=if uid=0∨k < l.length then (l,false) else (l ++ [uid],true)
def IdxU (base:Nat) (w:World) (x:Nat) (u:Value) (l:List Int):Prop:=Blk w x 163 #[u]∧URow base w u l∧u.ownBlock≠some x
theorem IdxU.fr {base x:Nat} {w w':World} {u:Value} {l:List Int} {S:Nat→Prop} (h:IdxU base w x u l) (hf:Fr S w w') (h1:¬ S x) (h2:∀ b,u.ownBlock=some b→¬ S b):IdxU base w' x u l :=
 ⟨Fr.blk hf h.1 h1,h.2.1.fr hf h2,h.2.2⟩
theorem IdxU.new {base x:Nat} {w w':World} {u:Value} {l:List Int} (h:IdxU base w x u l) (hf:New w w'):IdxU base w' x u l:=h.fr hf id fun _ _=>id
theorem IdxU.at_ {base x:Nat} {w:World} {u:Value} {l:List Int} (h:IdxU base w x u l):IdxAt base w x l:=⟨u,h.1,h.2.1⟩
abbrev IFr (x:Nat) (u:Value) (w w':World):Prop:=Fr (fun k=>k=x∨u.ownBlock=some k) w w'
def Stays (w:World) (u u':Value):Prop:=u'.ownBlock=u.ownBlock∨∃ b,u'.ownBlock=some b∧w.heap.size≤b
theorem iapp_any {base x:Nat} {w:World} {u:Value} {l:List Int} (h:IdxU base w x u l) (hbase:base≤w.heap.size) (hl:l.length≤100000) (uid:Int) :
 Calls Tryz.prog 189 #[.pointer (some ⟨x,0,none⟩),.int .u32 uid] w fun e w'=>∃ (k:Nat) (u':Value),e=.returned (.bool (appOf l uid k).2)∧FindAt l uid k∧IdxU base w' x u' (appOf l uid k).1∧IFr x u w w'∧Stays w u u':=by
 obtain ⟨i0,hi,hz0,hz1,hz2⟩:=info_parts u32_info
 have HF:=Lib.hid (fun n=>find_any (h.at_.new ((New.refl w).drewN n)) hl uid)
 have H:=Lib.hid h
 obtain ⟨A,c,rfl,hlc⟩:=h.2.1.form
 have c0:w.cell? ⟨x,0,none⟩=some (.slice A l.length c):=h.1.cell 0
 have f0:w.frozen? ⟨x,0,none⟩=false:=h.1.frozen 0
 clear h
 cases hu0:(uid == 0)
 · go_enter Tryz.func189,Tryz.ntmps189
   go_wp2_with fail
   go_region_held3 (fun w'=>w'.cell? ⟨x,0,none⟩=some (.slice A l.length c)) (first | go_keep | assumption)
    ((first
      | (go_at_call 241
         refine (HF.out _).mono ?_
         rintro e w1 ⟨k,rfl,hk,hn1⟩
         have hn2:New w w1:=((New.refl w).drewN _).trans hn1
         have c1:w1.cell? ⟨x,0,none⟩=some (.slice A l.length c):=Fr.cell hn2 c0 id
         have HK:=Lib.hid hk
         have hkl:=hk.1
         clear hk)
      | fail))
   have hU0:=Lib.hid (show uid≠0 by simpa using hu0)
   by_cases hlt:k < l.length
   · have hd:decide (k < l.length)=true:=decide_eq_true hlt
     have happ:appOf l uid k=(l,false):=if_pos (.inr hlt)
     have HAPP:=Lib.hid happ
     clear happ
     rw [hd]
     go_wp2
     go_ret
     refine ⟨k,_,by rw [HAPP.out]; rfl,HK.out,?_,hn2.to,.inl rfl⟩
     rw [HAPP.out]
     exact H.out.new hn2
   · have hd:decide (k < l.length)=false:=decide_eq_false hlt
     have happ:appOf l uid k=(l ++ [uid],true):=if_neg (by
      rintro (h1 | h1)
      · exact hU0.out h1
      · exact hlt h1)
     have HAPP:=Lib.hid happ
     have f1:w1.frozen? ⟨x,0,none⟩=false:=(New.blk hn2 H.out.1).frozen 0
     have hrow:=Lib.hid (H.out.2.1.new (hn2.alloc (.cells #[.int .u32 uid] 28)))
     have hblk:=Lib.hid (New.blk (hn2.alloc (.cells #[.int .u32 uid] 28)) H.out.1)
     have hsz:=hn2.size
     have hxl:=H.out.1.lt
     have HX:=Lib.hid (fun (e:Value.ownBlock (.slice A l.length c)=some x)=>H.out.2.2 e)
     clear happ
     rw [hd]
     go_wp2_with (at_builtin; refine wpList_push_urow rfl _ _ _ rfl Tryz.underlying58 hi hz0 hz1 hz2 (by omega) hrow.out rfl uid w1.heap.size (Blk.new _ _ _) 1 rfl (by omega) (by simp; omega) ?_; intro A2 n2 c2 w2 hr2 hf2 hs2; have b2:=Lib.hid (Fr.blk hf2 hblk.out HX.out); have c2x:w2.cell? ⟨x,0,none⟩=some (.slice A l.length c):=b2.out.cell 0; have f2x:w2.frozen? ⟨x,0,none⟩=false:=b2.out.frozen 0)
     go_ret
     have hxn:Value.ownBlock (.slice A2 n2 c2)≠some x:=fun e=>by
      rcases hs2.out with h | h
      · exact HX.out (h ▸ e)
      · rw [h] at e; injection e with e; simp at e; omega
     refine ⟨k,.slice A2 n2 c2,by rw [HAPP.out]; rfl,HK.out,?_,?_,?_⟩
     · rw [HAPP.out]
       refine ⟨?_,?_,hxn⟩
       · exact b2.out.set_ 0 _
       · exact hr2.fr (Fr.setCell (S:=fun k=>k=x) (p:=⟨x,0,none⟩) (Fr.refl _ w2) (fun _=>rfl) _) fun b hb e=>hxn (e ▸ hb)
     · have h1:IFr x (.slice A l.length c) w w2:=Fr.trans' (New.to (hn2.alloc _)) hf2 fun i _ h=>.inr h
       exact Fr.setCell h1 (fun _=>.inl rfl) _
     · rcases hs2.out with h | h
       · exact .inl h
       · exact .inr ⟨_,h,by simp; omega⟩
 · have HU:=Lib.hid (show uid=0 by simpa using hu0)
   have hk0:∃ k,FindAt l uid k:=findAt_ex l uid
   go_enter Tryz.func189,Tryz.ntmps189
   go_wp2_with fail
   go_quiet (fail)
   go_wp2
   go_ret
   obtain ⟨k,hk⟩:=hk0
   have happ:appOf l uid k=(l,false):=if_pos (.inl HU.out)
   exact ⟨k,_,by rw [happ]; rfl,hk,by rw [happ]; exact H.out.new ((New.refl w).drewN _),New.to ((New.refl w).drewN _),.inl rfl⟩
end Go.Proofs.YtliimglbbiebiaaGreatDoor
end

section
namespace Go.Proofs.YtliimglbbiebiaaGreatDoor
open Go.RowKit
structure Ev where
 k:Int
 u:Int
 f:Int
 deriving DecidableEq
def Ev.val (e:Ev):Value:=.agg #[.int .i64 e.k,.int .u32 e.u,.int .u8 e.f]
def evE:Elem Ev where
 enc e:=[.int .i64 e.k,.int .u32 e.u,.int .u8 e.f]
 sz:=3
 len _:=rfl
 one x u hu:=by simp at hu; rcases hu with rfl | rfl | rfl <;> rfl
 pos:=by omega
def Ev.wf (e:Ev):Prop:=(Lit.int .i64 e.k).wf=true∧(Lit.int .u32 e.u).wf=true∧(Lit.int .u8 e.f).wf=true
theorem ev_info:(Tryz.prog.info? 232).map (fun i=>(i.zero,i.size,i.bytes))=some (some (.agg #[.int .i64 0,.int .u32 0,.int .u8 0]),3,16):=by kernel_rfl
def nameOf (k:Int):ByteArray:=if k=1 then "arrived".toUTF8 else if k=2 then "gone".toUTF8 else if k=3 then "changed".toUTF8 else ⟨#[]⟩
theorem name_any (k:Int) (w:World):Calls Tryz.prog 299 #[.int .i64 k] w fun e w'=>e=.returned (.string (nameOf k))∧w=w':=by
 by_cases h1:k=1
 · subst h1
   go_enter Tryz.func299,Tryz.ntmps299
   go_wp2
   go_ret
   exact ⟨rfl,rfl⟩
 · by_cases h2:k=2
   · subst h2
     go_enter Tryz.func299,Tryz.ntmps299
     go_wp2
     go_ret
     exact ⟨rfl,rfl⟩
   · by_cases h3:k=3
     · subst h3
       go_enter Tryz.func299,Tryz.ntmps299
       go_wp2
       go_ret
       exact ⟨rfl,rfl⟩
     · have hn:nameOf k=⟨#[]⟩:=by simp [nameOf,h1,h2,h3]
       rw [hn]
       clear hn
       have b1:(k == 1)=false:=by simp [h1]
       have b2:(k == 2)=false:=by simp [h2]
       have b3:(k == 3)=false:=by simp [h3]
       go_enter Tryz.func299,Tryz.ntmps299
       go_wp2
       go_ret
       exact ⟨rfl,rfl⟩
theorem nameOf_empty (k:Int):(nameOf k).toList.isEmpty=!decide (1≤k∧k≤3):=by
 by_cases h1:k=1
 · subst h1; decide +kernel
 · by_cases h2:k=2
   · subst h2; decide +kernel
   · by_cases h3:k=3
     · subst h3; decide +kernel
     · have hd:¬ (1≤k∧k≤3):=by omega
       simp only [nameOf,h1,h2,h3,hd,if_false,decide_false,Bool.not_false]
       decide +kernel
theorem known_any (v:Ev) (w:World):Calls Tryz.prog 242 #[v.val] w fun e w'=>e=.returned (.bool (decide (1≤v.k∧v.k≤3)))∧New w w':=by
 have hn:=nameOf_empty v.k
 obtain ⟨k,u,f⟩:=v
 unfold Ev.val
 simp only at hn ⊢
 generalize decide (1≤k∧k≤3)=b at hn ⊢
 have HN:=Lib.hid hn
 clear hn
 go_enter Tryz.func242,Tryz.ntmps242
 go_wp2_with (go_at_call 299; refine (name_any k _).mono ?_; generalize nameOf k=s at HN ⊢; rintro e w' ⟨rfl,rfl⟩)
 go_ret
 refine ⟨?_,(New.refl _).alloc _⟩
 show Ending.returned (.bool (!s.toList.isEmpty))=_
 rw [HN.out,Bool.not_not]
end Go.Proofs.YtliimglbbiebiaaGreatDoor
end

section
namespace Go.Proofs.YtliimglbbiebiaaGreatDoor
def later (e:Ev) (l:List Ev):Bool:=decide (e.k=3) && l.any fun x=>decide (x.k=3) && decide (x.u=e.u)
def squeeze:List Ev→List Ev
 | []=>[]
 | e :: l=>if later e l then squeeze l else e :: squeeze l
theorem drop_cons {α:Type} {l:List α} {k:Nat} {x:α} (h:l[k]? = some x):l.drop k=x :: l.drop (k + 1):=by
 obtain ⟨hk,rfl⟩:=List.getElem?_eq_some_iff.1 h
 exact List.drop_eq_getElem_cons hk
theorem squeeze_drop {l:List Ev} {k:Nat} {x:Ev} (h:l[k]? = some x):squeeze (l.drop k)=if later x (l.drop (k + 1)) then squeeze (l.drop (k + 1)) else x :: squeeze (l.drop (k + 1)):=by
 rw [drop_cons h,squeeze]
theorem later_iff {l:List Ev} {k:Nat} {x:Ev}:later x (l.drop k)=true ↔ x.k=3∧∃ i y,k≤i∧l[i]? = some y∧y.k=3∧y.u=x.u:=by
 unfold later
 simp only [Bool.and_eq_true,decide_eq_true_eq,List.any_eq_true]
 constructor
 · rintro ⟨h1,y,hy,h2,h3⟩
   obtain ⟨i,hi⟩:=List.mem_iff_getElem?.1 hy
   rw [List.getElem?_drop] at hi
   exact ⟨h1,k + i,y,by omega,hi,h2,h3⟩
 · rintro ⟨h1,i,y,hi,hy,h2,h3⟩
   refine ⟨h1,y,List.mem_iff_getElem?.2 ⟨i - k,?_⟩,h2,h3⟩
   rw [List.getElem?_drop,show k + (i - k)=i by omega]
   exact hy
theorem squeeze_length (l:List Ev):(squeeze l).length≤l.length:=by
 induction l with
 | nil=>simp [squeeze]
 | cons e l ih =>
   rw [squeeze]
   split
   · simp; omega
   · simp; exact ih
end Go.Proofs.YtliimglbbiebiaaGreatDoor
end

section
namespace Go.Proofs.YtliimglbbiebiaaGreatDoor
open Go.RowKit
def IsPred (w:World) (g:Nat) (lb:Array Value) (p:Ev→Bool):Prop :=
 ∀ (W:World) (x:Ev),New w W→Calls Tryz.prog g (#[x.val] ++ lb) W fun e w'=>e=.returned (.bool (p x))∧New W w'
theorem split_any (g:Nat) (lb:Array Value) (p:Ev→Bool) (hE:∀ args w,(callFunc g args).run Tryz.prog w=.ok (.enter g args) w) (v:Value) (l:List Ev) (w:World) (hp:IsPred w g lb p) (hv:Rd evE w v l) (hl:l.length≤200000000) :
 Calls Tryz.prog 227 #[v,.func (.func g) #[] lb] w fun e w'=>∃ y n,e=.returned (.tuple #[y,n])∧Own evE 232 w.heap.size w' y (l.filter p)∧Own evE 232 w.heap.size w' n (l.filter fun x=>!p x)∧New w w':=by
 obtain ⟨A,c,rfl,hc,hcells⟩:=hv
 have HC:=Lib.hid hcells
 clear hcells
 obtain ⟨i0,hi,hz0,hz1,hz2⟩:=info_parts ev_info
 go_enter Tryz.func227,Tryz.ntmps227
 go_wp2
 go_loopw [4,5,10] (fun vy vn vi wr=>∃ k:Nat,k≤l.length∧vi=.int .i64 k∧Own evE 232 w.heap.size wr vy ((l.take k).filter p)∧Own evE 232 w.heap.size wr vn ((l.take k).filter fun x=>!p x) ∧
  (vy.ownBlock=none∨vy.ownBlock≠vn.ownBlock)∧New w wr) (fun _ _ vi _=>l.length - (intOf vi).toNat)
 case atStart=>exact ⟨0,Nat.zero_le _,rfl,Own.nil _ _ _ _,Own.nil _ _ _ _,.inl rfl,New.refl _⟩
 case round =>
  obtain ⟨k,hk,rfl,hy,hn,hyn,hnew⟩:=hrel
  by_cases hkl:k < l.length
  · obtain ⟨x,hx⟩:∃ x,l[k]? = some x:=⟨_,List.getElem?_eq_getElem hkl⟩
    obtain ⟨b,off,rfl,hcell⟩:=HC.out (by rintro rfl; simp at hkl)
    obtain ⟨xk,xu,xf⟩:=x
    have c0:wr.cell? ⟨b,off + k * 3,none⟩=some (.int .i64 xk):=Fr.cell hnew (hcell k _ hx 0 _ rfl) id
    have c1:wr.cell? ⟨b,off + k * 3 + 1,none⟩=some (.int .u32 xu):=Fr.cell hnew (hcell k _ hx 1 _ rfl) id
    have c2:wr.cell? ⟨b,off + k * 3 + 2,none⟩=some (.int .u8 xf):=Fr.cell hnew (hcell k _ hx 2 _ rfl) id
    have HX:=Lib.hid hx
    clear hcell hx
    have hcall:=hp _ ⟨xk,xu,xf⟩ (hnew.alloc (.cells #[.int .i64 xk,.int .u32 xu,.int .u8 xf] 232))
    have hb0:Blk (wr.alloc (.cells #[.int .i64 xk,.int .u32 xu,.int .u8 xf] 232)) wr.heap.size 232 #[.int .i64 xk,.int .u32 xu,.int .u8 xf]:=Blk.new _ _ _
    have hsz:=hnew.size
    have htl:(l.take k).length≤k:=List.length_take_le _ _
    have hfy:((l.take k).filter p).length≤k:=Nat.le_trans (List.length_filter_le _ _) htl
    have hfn:((l.take k).filter fun x=>!p x).length≤k:=Nat.le_trans (List.length_filter_le _ _) htl
    cases hpx:p ⟨xk,xu,xf⟩
    all_goals
     rw [hpx] at hcall
     have HP:=Lib.hid hpx
     have HCALL:=Lib.hid hcall
     clear hpx hcall
     go_wp2_with fail
     refine HCALL.out.mono ?_
     rintro e w1 ⟨rfl,hn1⟩
     have hs1:=hn1.size
     rw [World.size_alloc] at hs1
     have hb1:=hn1.blk hb0
     have d0:w1.cell? ⟨wr.heap.size,0,none⟩=some (.int .i64 xk):=hb1.cell 0
     have d1:w1.cell? ⟨wr.heap.size,1,none⟩=some (.int .u32 xu):=hb1.cell 1
     have d2:w1.cell? ⟨wr.heap.size,2,none⟩=some (.int .u8 xf):=hb1.cell 2
     have hy1:=(hy.alloc (.cells #[.int .i64 xk,.int .u32 xu,.int .u8 xf] 232)).new hn1
     have hno1:=(hn.alloc (.cells #[.int .i64 xk,.int .u32 xu,.int .u8 xf] 232)).new hn1
     have hnew1:New w w1:=(hnew.alloc _).trans hn1
     clear c0 c1 c2 hb0 hy hn hnew HCALL hn1 hb1
    · go_wp2_with (at_builtin; refine wpList_push (E:=evE) rfl _ _ _ rfl Tryz.underlying223 hi hz0 hz1 hz2 rfl (hno1.alloc _) rfl ⟨xk,xu,xf⟩ w1.heap.size (Blk.new _ _ _) 1 rfl (by unfold maxLen; omega) (by omega) (by simp; omega) ?_; intro v2 w2 hv2 hf2 hl2)
      have hap:=hy1.alloc (.cells #[.int .i64 xk,.int .u32 xu,.int .u8 xf] 232) |>.apart (hno1.alloc _) hyn hf2 hl2
      have hnew2:=New.append (hnew1.alloc _) (hno1.alloc _) hf2
      have et:=take_snoc HX.out
      go_roundw
      case rel =>
       refine ⟨k + 1,by omega,by go_num,?_,?_,hap.2,hnew2⟩
       · rw [et,List.filter_append]
         simpa [HP.out] using hap.1
       · rw [et,List.filter_append]
         simpa [HP.out] using hv2
      case measure=>simp [intOf]; omega
    · go_wp2_with (at_builtin; refine wpList_push (E:=evE) rfl _ _ _ rfl Tryz.underlying223 hi hz0 hz1 hz2 rfl (hy1.alloc _) rfl ⟨xk,xu,xf⟩ w1.heap.size (Blk.new _ _ _) 1 rfl (by unfold maxLen; omega) (by omega) (by simp; omega) ?_; intro v2 w2 hv2 hf2 hl2)
      have hap:=hno1.alloc (.cells #[.int .i64 xk,.int .u32 xu,.int .u8 xf] 232) |>.apart (hy1.alloc _) (apart_symm hyn) hf2 hl2
      have hnew2:=New.append (hnew1.alloc _) (hy1.alloc _) hf2
      have et:=take_snoc HX.out
      go_roundw
      case rel =>
       refine ⟨k + 1,by omega,by go_num,?_,?_,apart_symm hap.2,hnew2⟩
       · rw [et,List.filter_append]
         simpa [HP.out] using hv2
       · rw [et,List.filter_append]
         simpa [HP.out] using hap.1
      case measure=>simp [intOf]; omega
  · go_wp2
    go_ret2
    have e1:l.take k=l:=List.take_of_length_le (by omega)
    rw [e1] at hy hn
    exact ⟨_,_,rfl,hy,hn,hnew⟩
end Go.Proofs.YtliimglbbiebiaaGreatDoor
end

section
namespace Go.Proofs.YtliimglbbiebiaaGreatDoor
open Go.RowKit Go.Maps
theorem laidOutP:laidOutB Tryz.prog=true:=by kernel_rfl
theorem keyRow:398 < Tryz.prog.types.size:=of_decide_eq_true (by kernel_rfl)
theorem keyCells:Tryz.prog.cellsOf 398=2:=by kernel_rfl
theorem keyLaw:Keyed Tryz.prog 398:=Keyed.of_law (deep_law_laid laidOutP (m:=2) (by omega) keyRow (by kernel_rfl) (by kernel_rfl))
theorem keyT:Tryz.prog.keyType 398=true:=by kernel_rfl
theorem keyFormed (a b:Int):Value.formed Tryz.prog 398 (.agg #[.int .i64 a,.int .u32 b])=true:=by
 simp [Value.formed,Tryz.underlying398,keyCells]
theorem keyWide:(match Tryz.prog.underlying 398 with | some (.array _ _) | some (.struct _)=>true | _=>false)=true:=by rw [Tryz.underlying398]
def evKeys:KeyEnc Tryz.prog 398 (Int × Int) where
 law:=keyLaw
 kv:=fun p=>.agg #[.int .i64 p.1,.int .u32 p.2]
 kl:=fun p=>(DataW.agg [.lit (.int .i64 p.1),.lit (.int .u32 p.2)]:DataW Value).asKey
 ok:=fun p=>(Lit.int .i64 p.1).wf=true∧(Lit.int .u32 p.2).wf=true
 key:=fun p h=>(keyOf_asKey (H:=Value) (enc:=fun q=>q.2) (w:=default) (base:=0) (sp:=fun _=>true) (held:=true) keyT keyWide (keyFormed p.1 p.2)
  (Go.Joins.shut_agg2 (y0:=(.lit (.int .i64 p.1),[])) (y1:=(.lit (.int .u32 p.2),[])) Tryz.underlying398 (by kernel_rfl) keyCells ⟨1,by simp [DataW.trod,Tryz.underlying3,h.1]⟩ ⟨1,by simp [DataW.trod,Tryz.underlying28,h.2]⟩)).1
 inj:=fun a b h=>by
  injection h with h
  simp only [Array.mk.injEq,List.cons.injEq,Value.int.injEq,true_and,and_true] at h
  exact Prod.ext h.1 h.2
end Go.Proofs.YtliimglbbiebiaaGreatDoor
end

section
namespace Go.Proofs.YtliimglbbiebiaaGreatDoor
open Go.RowKit Go.Maps
def LastOf (l:List Ev) (k:Nat) (M:List ((Int × Int) × Value)):Prop :=
 ∀ i e,i < k→l[i]? = some e→∃ j:Nat,get M (e.k,e.u)=some (.int .i64 j)∧i≤j∧j < k∧∃ e',l[j]? = some e'∧e'.k=e.k∧e'.u=e.u
theorem LastOf.step {l:List Ev} {k:Nat} {M:List ((Int × Int) × Value)} (h:LastOf l k M) {x:Ev} (hx:l[k]? = some x):LastOf l (k + 1) (put M (x.k,x.u) (.int .i64 (k:Nat))):=by
 intro i e hi he
 by_cases hk:(e.k,e.u)=(x.k,x.u)
 · rw [hk,get_put_same]
   injection hk with h1 h2
   exact ⟨k,rfl,by omega,by omega,x,hx,h1.symm,h2.symm⟩
 · have hik:i < k:=by
    rcases Nat.lt_or_ge i k with h1 | h1
    · exact h1
    · obtain rfl:i=k:=by omega
      rw [hx] at he
      injection he with he
      subst he
      exact absurd rfl hk
   rw [get_put_other M _ hk]
   obtain ⟨j,h1,h2,h3,h4⟩:=h i e hik he
   exact ⟨j,h1,h2,by omega,h4⟩
theorem LastOf.tells {l:List Ev} {M:List ((Int × Int) × Value)} (h:LastOf l l.length M) {k:Nat} {x:Ev} (hx:l[k]? = some x) (h3:x.k=3) :
 ∃ j:Nat,get M (x.k,x.u)=some (.int .i64 j)∧j < l.length∧((j=k) ↔ later x (l.drop (k + 1))=false):=by
 obtain ⟨j,h1,h2,h4,y,hy,hyk,hyu⟩:=h k x (List.getElem?_eq_some_iff.1 hx).1 hx
 refine ⟨j,h1,h4,?_⟩
 constructor
 · rintro rfl
   cases hl:later x (l.drop (j + 1)) with
   | false=>rfl
   | true =>
     obtain ⟨_,i,z,hi,hz,hz3,hzu⟩:=later_iff.1 hl
     obtain ⟨j',h5,h6,_⟩:=h i z (List.getElem?_eq_some_iff.1 hz).1 hz
     rw [hz3,hzu,← h3,h1] at h5
     injection h5 with h5
     injection h5 with _ h5
     omega
 · intro hl
   rcases Nat.lt_or_ge k j with hk | hk
   · have:later x (l.drop (k + 1))=true:=later_iff.2 ⟨h3,j,y,by omega,hy,by rw [hyk,h3],hyu⟩
     rw [hl] at this
     cases this
   · omega
theorem put_length {α:Type} [DecidableEq α] (M:List (α × Value)) (a:α) (v:Value):(put M a v).length≤M.length + 1:=by
 unfold put del
 rw [List.length_cons]
 have:=List.length_filter_le (fun p:α × Value=>decide (p.1≠a)) M
 omega
theorem zeroInt (w:World):(zeroValue 3).run Tryz.prog w=.ok (.int .i64 0) w:=by kernel_rfl
theorem squeeze_any (v:Value) (l:List Ev) (w:World) (hv:Rd evE w v l) (hwf:∀ x ∈ l,x.wf) (hl:l.length≤200000000) :
 Calls Tryz.prog 229 #[v] w fun e w'=>∃ o,e=.returned o∧Own evE 232 w.heap.size w' o (squeeze l)∧New w w':=by
 obtain ⟨A,c,rfl,hc,hcells⟩:=hv
 have HC:=Lib.hid hcells
 have HW:=Lib.hid hwf
 clear hcells hwf
 have hmm:=@run_makeMap Tryz.prog
 obtain ⟨i0,hi,hz0,hz1,hz2⟩:=info_parts ev_info
 go_enter Tryz.func229,Tryz.ntmps229
 go_wp2
 go_loopw [12] (fun vi wr=>∃ (k:Nat) (M:List ((Int × Int) × Value)),k≤l.length∧vi=.int .i64 k∧HasMap evKeys wr w.heap.size M∧M.length≤k∧LastOf l k M∧New w wr) (fun vi _=>l.length - (intOf vi).toNat)
 case atStart=>exact ⟨0,[],Nat.zero_le _,rfl,HasMap.made _ _,Nat.le_refl _,fun i e hi=>by omega,(New.refl _).alloc _⟩
 case round =>
  obtain ⟨k,M,hk,rfl,hM,hMl,hL,hnew⟩:=hrel
  have HL:=Lib.hid hL
  clear hL
  by_cases hkl:k < l.length
  · obtain ⟨x,hx⟩:∃ x,l[k]? = some x:=⟨_,List.getElem?_eq_getElem hkl⟩
    obtain ⟨b,off,rfl,hcell⟩:=HC.out (by rintro rfl; simp at hkl)
    have hxw:=HW.out x (List.mem_of_getElem? hx)
    have c0:wr.cell? ⟨b,off + k * 3,none⟩=some (.int .i64 x.k):=Fr.cell hnew (hcell k _ hx 0 _ rfl) id
    have c1:wr.cell? ⟨b,off + k * 3 + 1,none⟩=some (.int .u32 x.u):=Fr.cell hnew (hcell k _ hx 1 _ rfl) id
    have c2:wr.cell? ⟨b,off + k * 3 + 2,none⟩=some (.int .u8 x.f):=Fr.cell hnew (hcell k _ hx 2 _ rfl) id
    have HX:=Lib.hid hx
    have HXW:=Lib.hid hxw
    clear hcell hx hxw
    go_wp2_with (at_mapUpdate; refine wpList_put (E:=evKeys) rfl _ _ _ 396 3 rfl Tryz.underlying396 (hM.alloc _) (by unfold maxLen; omega) (x.k,x.u) ⟨HXW.out.1,HXW.out.2.1⟩ (.int .i64 k) rfl rfl rfl ?_; intro w1 hM1 ho1)
    go_roundw
    case rel=>exact ⟨k + 1,_,by omega,by go_num,hM1,by have:=put_length M (x.k,x.u) (.int .i64 k); omega,HL.out.step HX.out,New.one (hnew.alloc _) ho1 (Nat.le_refl _)⟩
    case measure=>simp [intOf]; omega
  · obtain rfl:k=l.length:=by omega
    go_wp2
    obtain ⟨wo,rfl⟩:∃ wo:World,wo=wr:=⟨_,rfl⟩
    go_loopw [6,27] (fun vo vi wr=>∃ (k:Nat) (o:List Ev),k≤l.length∧vi=.int .i64 k∧Own evE 232 w.heap.size wr vo o∧o.length≤k∧Hid (o ++ squeeze (l.drop k)=squeeze l)∧HasMap evKeys wr w.heap.size M∧New w wr∧vo.ownBlock≠some w.heap.size) (fun _ vi _=>l.length - (intOf vi).toNat)
    case atStart=>exact ⟨0,[],Nat.zero_le _,rfl,Own.nil _ _ _ _,Nat.le_refl _,by show [] ++ squeeze (l.drop 0)=squeeze l; rfl,hM,hnew,by simp [Value.ownBlock]⟩
    case round =>
     obtain ⟨k,o,hk2,rfl,ho,hol,HS,hM2,hnew2,hne⟩:=hrel
     clear hM hnew hMl
     by_cases hkl:k < l.length
     · obtain ⟨x,hx⟩:∃ x,l[k]? = some x:=⟨_,List.getElem?_eq_getElem hkl⟩
       obtain ⟨b,off,rfl,hcell⟩:=HC.out (by rintro rfl; simp at hkl)
       have hxw:=HW.out x (List.mem_of_getElem? hx)
       have c0:wr.cell? ⟨b,off + k * 3,none⟩=some (.int .i64 x.k):=Fr.cell hnew2 (hcell k _ hx 0 _ rfl) id
       have c1:wr.cell? ⟨b,off + k * 3 + 1,none⟩=some (.int .u32 x.u):=Fr.cell hnew2 (hcell k _ hx 1 _ rfl) id
       have c2:wr.cell? ⟨b,off + k * 3 + 2,none⟩=some (.int .u8 x.f):=Fr.cell hnew2 (hcell k _ hx 2 _ rfl) id
       have hsz2:=hnew2.size
       have hsd:=squeeze_drop hx
       have hstep:later x (l.drop (k + 1))=false→(o ++ [x]) ++ squeeze (l.drop (k + 1))=squeeze l:=fun h=>by rw [← HS.out,hsd,h]; simp
       have hskip:later x (l.drop (k + 1))=true→o ++ squeeze (l.drop (k + 1))=squeeze l:=fun h=>by rw [← HS.out,hsd,h]; simp
       have HX:=Lib.hid hx
       have HSTEP:=Lib.hid hstep
       have HSKIP:=Lib.hid hskip
       have HXW:=Lib.hid hxw
       clear hcell hx hxw hsd hstep hskip
       obtain ⟨xk,xu,xf⟩:=x
       dsimp only at c0 c1 c2
       by_cases h3:xk=3
       · subst h3
         obtain ⟨j,hj1,hj2,hj3⟩:=HL.out.tells HX.out rfl
         have hrun:=(hM2.alloc (.cells #[.int .i64 3,.int .u32 xu,.int .u8 xf] 232)).run_look (t:=396) Tryz.underlying396 (zeroInt _) (k:=(3,xu)) ⟨HXW.out.1,HXW.out.2.1⟩
         rw [hj1] at hrun
         have hkv:evKeys.kv ((3:Int),xu)=.agg #[.int .i64 3,.int .u32 xu]:=rfl
         rw [hkv] at hrun
         simp only [Option.getD_some] at hrun
         have HJ:=Lib.hid hj3
         clear hj1 hj3 hkv
         by_cases hjk:j=k
         · subst hjk
           go_wp2_with (at_builtin; refine wpList_push (E:=evE) rfl _ _ _ rfl Tryz.underlying223 hi hz0 hz1 hz2 rfl ((ho.alloc _).alloc _) rfl ⟨3,xu,xf⟩ (wr.heap.size + 1) (Blk.new1 _ _ _ _) 1 rfl (by unfold maxLen; omega) (by omega) (by simp; omega) ?_; intro v2 w2 hv2 hf2 hl2)
           have hM3:HasMap evKeys w2 w.heap.size M:=((hM2.alloc _).alloc _).fr hf2 hne
           have hne2:v2.ownBlock≠some w.heap.size:=by
            rcases hl2 with h | h
            · rw [h]; exact hne
            · rw [h]; have:=hM2.lt; simp; omega
           have hnew3:=New.append ((hnew2.alloc _).alloc _) ((ho.alloc _).alloc _) hf2
           go_roundw
           case rel=>exact ⟨j + 1,_,by omega,by go_num,hv2,by simp; omega,HSTEP.out (HJ.out.1 rfl),hM3,hnew3,hne2⟩
           case measure=>simp [intOf]; omega
         · have hjb:((j:Int) == (k:Int))=false:=by simp; omega
           have hlt:later ⟨3,xu,xf⟩ (l.drop (k + 1))=true:=by
            cases hb:later ⟨3,xu,xf⟩ (l.drop (k + 1)) with
            | true=>rfl
            | false=>exact absurd (HJ.out.2 hb) hjk
           have HLT:=Lib.hid hlt
           clear hlt
           go_wp2
           go_roundw
           case rel=>exact ⟨k + 1,o,by omega,by go_num,ho.alloc _,by omega,HSKIP.out HLT.out,hM2.alloc _,hnew2.alloc _,hne⟩
           case measure=>simp [intOf]; omega
       · have hb3:(xk != 3)=true:=by simp [h3]
         have hl0:later ⟨xk,xu,xf⟩ (l.drop (k + 1))=false:=by simp [later,h3]
         have HL0:=Lib.hid hl0
         clear hl0
         go_wp2_with (at_builtin; refine wpList_push (E:=evE) rfl _ _ _ rfl Tryz.underlying223 hi hz0 hz1 hz2 rfl ((ho.alloc _).alloc _) rfl ⟨xk,xu,xf⟩ (wr.heap.size + 1) (Blk.new1 _ _ _ _) 1 rfl (by unfold maxLen; omega) (by omega) (by simp; omega) ?_; intro v2 w2 hv2 hf2 hl2)
         have hM3:HasMap evKeys w2 w.heap.size M:=((hM2.alloc _).alloc _).fr hf2 hne
         have hne2:v2.ownBlock≠some w.heap.size:=by
          rcases hl2 with h | h
          · rw [h]; exact hne
          · rw [h]; have:=hM2.lt; simp; omega
         have hnew3:=New.append ((hnew2.alloc _).alloc _) ((ho.alloc _).alloc _) hf2
         go_roundw
         case rel=>exact ⟨k + 1,_,by omega,by go_num,hv2,by simp; omega,HSTEP.out HL0.out,hM3,hnew3,hne2⟩
         case measure=>simp [intOf]; omega
     · go_wp2
       go_ret
       obtain rfl:k=l.length:=by omega
       have he:=HS.out
       rw [List.drop_length,squeeze,List.append_nil] at he
       subst he
       exact ⟨_,rfl,ho,hnew2⟩
end Go.Proofs.YtliimglbbiebiaaGreatDoor
end

section
namespace Go.Proofs.YtliimglbbiebiaaGreatDoor
open Go.RowKit
end Go.Proofs.YtliimglbbiebiaaGreatDoor
end

section
namespace Go.Proofs.YtliimglbbiebiaaGreatDoor
open Go.RowKit
structure Que (w:World) (b:Nat) (v:Value) (l:List Ev):Prop where
 blk:Blk w b 351 #[v]
 own:Own evE 232 0 w v l
 wf:∀ x ∈ l,x.wf
theorem Que.ne {w:World} {b:Nat} {v:Value} {l:List Ev} (h:Que w b v l):v.ownBlock≠some b:=h.own.blk_ne h.blk (by decide)
theorem Que.fr {S:Nat→Prop} {w w':World} {b:Nat} {v:Value} {l:List Ev} (h:Que w b v l) (hf:Fr S w w') (hb:¬ S b) (hv:∀ g,v.ownBlock=some g→¬ S g):Que w' b v l :=
 ⟨Fr.blk hf h.blk hb,h.own.fr hf hv,h.wf⟩
theorem Que.new {w w':World} {b:Nat} {v:Value} {l:List Ev} (h:Que w b v l) (hf:New w w'):Que w' b v l:=h.fr hf id fun _ _=>id
theorem known_pred (w:World):IsPred w 242 #[] (fun x=>decide (1≤x.k∧x.k≤3)):=fun W x _=>known_any x W
theorem flush1_pred (w:World) (g:Nat) (gone:Bool) (hg:Blk w g 4 #[.bool gone]):IsPred w 228 #[.pointer (some ⟨g,0,none⟩)] (fun x=>gone || decide (x.k≠2)):=by
 intro W x hn
 have hc:W.cell? ⟨g,0,none⟩=some (.bool gone):=(hn.blk hg).cell 0
 have hlt:=(hn.blk hg).lt
 have hc1:∀ o,(W.alloc o).cell? ⟨g,0,none⟩=some (.bool gone):=fun o=>(Blk.alloc (hn.blk hg) o).cell 0
 obtain ⟨k,u,f⟩:=x
 show Calls Tryz.prog 228 #[(Ev.val ⟨k,u,f⟩),.pointer (some ⟨g,0,none⟩)] W _
 unfold Ev.val
 dsimp only
 cases gone
 · by_cases hk:k=2
   · subst hk
     go_enter Tryz.func228,Tryz.ntmps228
     go_wp2
     go_ret
     exact ⟨rfl,(New.refl _).alloc _⟩
   · have hb:(k != 2)=true:=by simp [hk]
     have hd:(false || decide (k≠2))=true:=by simp [hk]
     rw [hd]
     clear hd
     go_enter Tryz.func228,Tryz.ntmps228
     go_wp2
     go_ret
     exact ⟨rfl,(New.refl _).alloc _⟩
 · rw [Bool.true_or]
   go_enter Tryz.func228,Tryz.ntmps228
   go_wp2
   go_ret
   exact ⟨rfl,(New.refl _).alloc _⟩
theorem qnew_any (w:World):Calls Tryz.prog 183 #[] w fun e w'=>e=.returned (.pointer (some ⟨w.heap.size,0,none⟩))∧Que w' w.heap.size (.slice none 0 0) []∧New w w':=by
 go_enter Tryz.func183,Tryz.ntmps183
 go_wp2
 go_ret
 exact ⟨rfl,⟨Blk.new _ _ _,Own.nil _ _ _ _,by simp⟩,(New.refl _).alloc _⟩
theorem push_any {w:World} {b:Nat} {v:Value} {l:List Ev} (h:Que w b v l) (u:Value) (m:List Ev) (hu:Rd evE w u m) (hm:m.length≤100000) (hl:l.length≤200000000) (hw:∀ x ∈ m,x.wf) :
 Calls Tryz.prog 190 #[.pointer (some ⟨b,0,none⟩),u] w fun e w'=>e=.returned (.tuple #[])∧∃ v',Que w' b v' (l ++ m.filter fun x=>decide (1≤x.k∧x.k≤3))∧Fr (fun k=>k=b∨v.ownBlock=some k) w w' ∧
  (v'.ownBlock=v.ownBlock∨∃ g,v'.ownBlock=some g∧w.heap.size≤g):=by
 obtain ⟨i0,hi,hz0,hz1,hz2⟩:=info_parts ev_info
 have hlt:=h.blk.lt
 go_enter Tryz.func190,Tryz.ntmps190
 go_wp2_with fail
 refine (split_any 242 #[] _ (enters _ _ _ Tryz.func242 (by kernel_rfl) rfl) u m w (known_pred w) hu (by omega)).mono ?_
 rintro e w1 ⟨y,n,rfl,hy,_,hn1⟩
 have h1:=h.new hn1
 have c0:w1.cell? ⟨b,0,none⟩=some v:=h1.blk.cell 0
 have f0:w1.frozen? ⟨b,0,none⟩=false:=h1.blk.frozen 0
 have hml:=List.length_filter_le (fun x:Ev=>decide (1≤x.k∧x.k≤3)) m
 have hs:=hn1.size
 have hvne:=h1.ne
 have HV:=Lib.hid hvne
 clear hvne
 go_wp2_with (at_builtin; refine wpList_append (E:=evE) rfl _ _ _ rfl Tryz.underlying223 hi hz0 hz1 hz2 rfl h1.own rfl hy.rd rfl (by unfold maxLen; omega) (by omega) (by omega) ?_; intro v2 w2 hv2 hf2 hl2; have hb2:Blk w2 b 351 #[v]:=Fr.blk hf2 h1.blk HV.out; have c2:w2.cell? ⟨b,0,none⟩=some v:=hb2.cell 0; have f2:w2.frozen? ⟨b,0,none⟩=false:=hb2.frozen 0; obtain ⟨A2,N2,C2,hv2e⟩:=own_shape hv2; subst hv2e)
 go_end0
 refine ⟨rfl,_,⟨hb2.set_ 0 _,hv2.fr ((One.refl b w2).set 0 _) (fun g hg e=>?_),?_⟩,?_,?_⟩
 · subst e
   have:=hv2.blk_ne hb2 (by decide)
   exact this hg
 · intro x hx
   rcases List.mem_append.1 hx with hx | hx
   · exact h.wf x hx
   · exact hw x (List.mem_filter.1 hx).1
 · exact (((fr_or hn1 fun _ h=>h.elim).trans (fr_or hf2 fun _ h=>Or.inr h))).trans (fr_or ((One.refl b w2).set 0 _) fun _ h=>Or.inl h)
 · rcases hl2 with hl2 | hl2
   · exact .inl hl2
   · exact .inr ⟨_,hl2,hs⟩
theorem flush_any {w:World} {b:Nat} {v:Value} {l:List Ev} (h:Que w b v l) (gone:Bool) (hl:l.length≤200000000) :
 Calls Tryz.prog 180 #[.pointer (some ⟨b,0,none⟩),.bool gone] w fun e w'=>∃ o v',e=.returned o∧Own evE 232 w.heap.size w' o (squeeze (l.filter fun x=>gone || decide (x.k≠2))) ∧
  Que w' b v' (l.filter fun x=>!(gone || decide (x.k≠2)))∧One b w w'∧(∀ g,v'.ownBlock=some g→w.heap.size≤g)∧(o.ownBlock=none∨o.ownBlock≠v'.ownBlock):=by
 have hmf:∀ (fn:Fn) (first cap:Array Value) (w:World),(Instr.makeFunc fn first cap).run Tryz.prog w=.ok (.func fn first cap) w:=fun _ _ _ _=>rfl
 have c0:w.cell? ⟨b,0,none⟩=some v:=h.blk.cell 0
 have hlt:=h.blk.lt
 obtain ⟨A,N,C,rfl⟩:=own_shape h.own
 have hbox:Blk (w.alloc (.cells #[.bool gone] 4)) w.heap.size 4 #[.bool gone]:=Blk.new _ _ _
 have h0:Que (w.alloc (.cells #[.bool gone] 4)) b (.slice A N C) l:=h.new ((New.refl _).alloc _)
 have hl1:=List.length_filter_le (fun x:Ev=>gone || decide (x.k≠2)) l
 go_enter Tryz.func180,Tryz.ntmps180
 go_wp2_with fail
 refine (split_any 228 #[.pointer (some ⟨w.heap.size,0,none⟩)] _ (enters _ _ _ Tryz.func228 (by kernel_rfl) rfl) _ l _ (flush1_pred _ w.heap.size gone hbox) h0.own.rd hl).mono ?_
 rintro e w1 ⟨y,n,rfl,hy,hno,hn1⟩
 rw [World.size_alloc] at hy hno
 have h1:=h0.new hn1
 have f1:w1.frozen? ⟨b,0,none⟩=false:=h1.blk.frozen 0
 have c1:w1.cell? ⟨b,0,none⟩=some (.slice A N C):=h1.blk.cell 0
 have hs:=hn1.size
 rw [World.size_alloc] at hs
 obtain ⟨A2,N2,C2,rfl⟩:=own_shape hno
 go_wp2_with fail
 have hb2:Blk (w1.setCell ⟨b,0,none⟩ (.slice A2 N2 C2)) b 351 #[.slice A2 N2 C2]:=h1.blk.set_ 0 _
 have hnb:∀ {x:Value} {m:List Ev},Own evE 232 (w.heap.size + 1) w1 x m→∀ g,x.ownBlock=some g→¬ g=b:=fun hx g hg e=>by have:=(hx.block hg).1; omega
 have hno2:=hno.fr ((One.refl b w1).set 0 (.slice A2 N2 C2)) (hnb hno)
 have hy2:=hy.fr ((One.refl b w1).set 0 (.slice A2 N2 C2)) (hnb hy)
 refine (squeeze_any _ _ _ hy2.rd (fun x hx=>h.wf x (List.mem_filter.1 hx).1) (by omega)).mono ?_
 rintro e w3 ⟨o,rfl,ho,hn3⟩
 go_wp2
 go_ret
 have hsz:w.heap.size≤(w1.setCell ⟨b,0,none⟩ (.slice A2 N2 C2)).heap.size:=by have:=((One.refl b w1).set 0 (.slice A2 N2 C2)).size; omega
 refine ⟨o,.slice A2 N2 C2,rfl,ho.mono hsz,⟨hn3.blk hb2,(hno2.mono (Nat.zero_le _)).new hn3,fun x hx=>h.wf x (List.mem_filter.1 hx).1⟩,?_,fun g hg=>?_,?_⟩
 · have f1:One b w w1:=fr_or (((New.refl w).alloc _).trans hn1) fun _ h=>h.elim
   exact (f1.trans ((One.refl b w1).set 0 _)).trans (fr_or hn3 fun _ h=>h.elim)
 · have:=(hno.block hg).1; omega
 · cases ho':o.ownBlock with
   | none=>exact .inl rfl
   | some g =>
     refine .inr fun he=>?_
     have h5:=(ho.block ho').1
     have h6:=(hno2.block he.symm).2
     omega
end Go.Proofs.YtliimglbbiebiaaGreatDoor
end

section
namespace Go.Proofs.YtliimglbbiebiaaGreatDoor
open Go.RowKit
def Ctr (w:World) (b:Nat) (next taken first val done:Int):Prop :=
 Blk w b 155 #[.int .u32 next,.int .u64 taken,.int .u32 first,.int .u32 val,.int .u32 done,.int .i32 0,.int .u32 0]
theorem Ctr.c0 {w b n t f v d} (h:Ctr w b n t f v d):w.cell? ⟨b,0,none⟩=some (.int .u32 n):=h.cell 0
theorem Ctr.c1 {w b n t f v d} (h:Ctr w b n t f v d):w.cell? ⟨b,1,none⟩=some (.int .u64 t):=h.cell 1
theorem Ctr.c3 {w b n t f v d} (h:Ctr w b n t f v d):w.cell? ⟨b,3,none⟩=some (.int .u32 v):=h.cell 3
theorem Ctr.c4 {w b n t f v d} (h:Ctr w b n t f v d):w.cell? ⟨b,4,none⟩=some (.int .u32 d):=h.cell 4
theorem Ctr.c5 {w b n t f v d} (h:Ctr w b n t f v d):w.cell? ⟨b,5,none⟩=some (.int .i32 0):=h.cell 5
theorem store32 (a:Addr) (u:Value) (y:Int) (w:World) (hc:w.cell? a=some u) (hz:w.frozen? a=false) :
 Calls Tryz.prog 57 #[.pointer (some a),.int .u32 y] w fun e w'=>e=.returned (.tuple #[])∧w'=w.setCell a (.int .u32 y):=by
 have hs:=run_call_store (P:=Tryz.prog) Tryz.func80 (by kernel_rfl) (by kernel_rfl) (by kernel_rfl) (by kernel_rfl) (y:=y) (k:=.u32) hc hz
 go_enter Tryz.func57,Tryz.ntmps57
 go_wp2
 go_end0
 exact ⟨rfl,rfl⟩
theorem load32 (a:Addr) (x:Int) (w:World) (hc:w.cell? a=some (.int .u32 x)) :
 Calls Tryz.prog 74 #[.pointer (some a)] w fun e w'=>e=.returned (.int .u32 x)∧w=w':=by
 have hs:=run_call_load (P:=Tryz.prog) Tryz.func104 (by kernel_rfl) (by kernel_rfl) (by kernel_rfl) .u32 (by kernel_rfl) hc
 go_enter Tryz.func74,Tryz.ntmps74
 go_wp2
 go_ret
 exact ⟨rfl,rfl⟩
theorem cas32 (a:Addr) (x y:Int) (w:World) (hc:w.cell? a=some (.int .u32 x)) (hz:w.frozen? a=false) :
 Calls Tryz.prog 236 #[.pointer (some a),.int .u32 x,.int .u32 y] w fun e w'=>e=.returned (.bool true)∧w.setCell a (.int .u32 y)=w':=by
 have hs:=run_call_cas_hit (P:=Tryz.prog) Tryz.func295 (by kernel_rfl) (by kernel_rfl) (by kernel_rfl) .u32 (by kernel_rfl) (y:=y) hc hz
 go_enter Tryz.func236,Tryz.ntmps236
 go_wp2
 go_ret
 exact ⟨rfl,rfl⟩
theorem add64 (a:Addr) (x:Int) (w:World) (hc:w.cell? a=some (.int .u64 x)) (hz:w.frozen? a=false) (h0:0≤x) (h1:x < 9223372036854775807) :
 Calls Tryz.prog 237 #[.pointer (some a),.int .u64 1] w fun e w'=>e=.returned (.int .u64 (x + 1))∧w.setCell a (.int .u64 (x + 1))=w':=by
 have hs:=run_call_add (P:=Tryz.prog) Tryz.func296 (by kernel_rfl) (by kernel_rfl) (by kernel_rfl) .u64 (by kernel_rfl) (x:=x) (y:=1) (s:=x + 1) hc hz (by simp [go_sem,IntKind.wrap_u64]; omega)
 go_enter Tryz.func237,Tryz.ntmps237
 go_wp2
 go_ret
 exact ⟨rfl,rfl⟩
theorem unew_any (next:Int) (w:World) (h0:0≤next) (h1:next≤4294967295) :
 Calls Tryz.prog 36 #[.int .u32 next] w fun e w'=>e=.returned (.pointer (some ⟨w.heap.size,0,none⟩))∧Ctr w' w.heap.size (max next 1) 0 (max next 1) 0 0∧New w w':=by
 rcases Int.lt_or_le next 1 with hn | hn
 · go_enter Tryz.func36,Tryz.ntmps36
   go_wp2_with fail
   refine wp_tail 8 (by kernel_rfl) (by kernel_rfl) ?_
   simp only [List.take_succ_cons,List.take_zero,List.drop_succ_cons,List.drop_zero]
   repeat still_step
   refine wpStill_nil ?_
   go_wp2_with (go_at_call 57; refine (store32 _ (.int .u32 0) _ _ (by simp) (by simp)).mono ?_; rintro e w' ⟨rfl,rfl⟩)
   go_ret
   rw [show max next 1=1 by omega]
   exact ⟨rfl,Blk.new _ _ _,((Fr.refl _ _).alloc _).drew⟩
 · go_enter Tryz.func36,Tryz.ntmps36
   go_wp2_with fail
   refine wp_tail 8 (by kernel_rfl) (by kernel_rfl) ?_
   simp only [List.take_succ_cons,List.take_zero,List.drop_succ_cons,List.drop_zero]
   repeat still_step
   refine wpStill_nil ?_
   go_wp2_with (go_at_call 57; refine (store32 _ (.int .u32 0) _ _ (by simp) (by simp)).mono ?_; rintro e w' ⟨rfl,rfl⟩)
   go_ret
   rw [show max next 1=next by omega]
   exact ⟨rfl,Blk.new _ _ _,((Fr.refl _ _).alloc _).drew⟩
section
variable {w:World} {b:Nat} {n t f v d:Int}
theorem next_any (h:Ctr w b n t f v d) :
 Calls Tryz.prog 45 #[.pointer (some ⟨b,0,none⟩)] w fun e w'=>e=.returned (.int .u32 n)∧w=w':=by
 have c0:=h.c0
 go_enter Tryz.func45,Tryz.ntmps45
 go_wp2_with (go_at_call 74; refine (load32 _ _ _ c0).mono ?_; rintro e w' ⟨rfl,rfl⟩)
 go_ret
 exact ⟨rfl,rfl⟩
theorem take_ok (h:Ctr w b n t f v d) (h0:0≤n) (h1:n < 4294967295) (ht0:0≤t) (ht1:t < 9223372036854775807) :
 Calls Tryz.prog 187 #[.pointer (some ⟨b,0,none⟩)] w fun e w'=>e=.returned (.tuple #[.int .u32 n,.int .i64 0])∧Ctr w' b (n + 1) (t + 1) f v d∧One b w w':=by
 have c0:=h.c0
 have c1:(w.setCell ⟨b,0,none⟩ (.int .u32 (n + 1))).cell? ⟨b,1,none⟩=some (.int .u64 t):=(World.cell?_setCell_other _ _ _ _ (by simp)).trans h.c1
 have f0:w.frozen? ⟨b,0,none⟩=false:=h.frozen 0
 have f1:w.frozen? ⟨b,1,none⟩=false:=h.frozen 1
 go_enter Tryz.func187,Tryz.ntmps187
 go_wp2
 refine wp_loop_rounds 1 ?_
 rw [rounds_succ]
 go_wp2_with (first
  | (go_at_call 74; refine (load32 _ _ _ c0).mono ?_; rintro e w' ⟨rfl,rfl⟩)
  | (go_at_call 236; refine (cas32 _ _ _ _ c0 f0).mono ?_; rintro e w' ⟨rfl,rfl⟩)
  | (go_at_call 237; refine (add64 _ _ _ c1 (by simp [f1]) ht0 ht1).mono ?_; rintro e w' ⟨rfl,rfl⟩))
 go_ret2
 exact ⟨rfl,(h.set_ 0 _).set_ 1 _,(One.refl _ _).set _ _ |>.set _ _⟩
end
end Go.Proofs.YtliimglbbiebiaaGreatDoor
end

section
namespace Go.Proofs.YtliimglbbiebiaaGreatDoor
open Go.RowKit Go.Maps
abbrev qKeys:KeyEnc Tryz.prog 3 Int:=intKeys Tryz.underlying3
structure Sx where
 s:Nat
 T:Tb
 c:Nat
 x:Nat
 u:Value
 q:Nat
 cap:Int
 vv:Int
 dd:Int
structure Qs where
 ids:List Int
 b:Int→Nat
 v:Int→Value
 l:Int→List Ev
def Qs.foot (Q:Qs) (k:Nat):Prop:=∃ i ∈ Q.ids,k=Q.b i∨(Q.v i).ownBlock=some k
def Sx.foot (S:Sx) (Q:Qs) (k:Nat):Prop:=S.T.foot k∨k=S.s∨k=S.c∨k=S.x∨S.u.ownBlock=some k∨k=S.q∨Q.foot k
structure QX (w:World) (q:Nat) (Q:Qs):Prop where
 map:HasMap qKeys w q (Q.ids.map fun i=>(i,.pointer (some ⟨Q.b i,0,none⟩)))
 que:∀ i ∈ Q.ids,Que w (Q.b i) (Q.v i) (Q.l i)
 qb:∀ i ∈ Q.ids,∀ j ∈ Q.ids,Q.b i=Q.b j→i=j
 qv:∀ i ∈ Q.ids,∀ j ∈ Q.ids,∀ g,(Q.v i).ownBlock=some g→(Q.v j).ownBlock=some g→i=j
theorem Qs.lt {w:World} {q:Nat} {Q:Qs} (h:QX w q Q) {k:Nat} (hk:Q.foot k):k < w.heap.size:=by
 obtain ⟨i,hi,rfl | hv⟩:=hk
 · exact (h.que i hi).blk.lt
 · exact ((h.que i hi).own.block hv).2
theorem QX.ids_nd {w:World} {q:Nat} {Q:Qs} (h:QX w q Q):Q.ids.Nodup:=by
 have:=h.map.nd
 rw [List.map_map] at this
 simpa [Function.comp_def] using this
theorem QX.fr {S:Nat→Prop} {w w':World} {q:Nat} {Q:Qs} (h:QX w q Q) (hf:Fr S w w') (hq:¬ S q) (hS:∀ k,Q.foot k→¬ S k):QX w' q Q :=
 ⟨h.map.fr hf hq,fun i hi=>(h.que i hi).fr hf (hS _ ⟨i,hi,.inl rfl⟩) fun _ hg=>hS _ ⟨i,hi,.inr hg⟩,h.qb,h.qv⟩
theorem QX.ne {w:World} {q:Nat} {Q:Qs} (h:QX w q Q) {g:Nat} {t:TypeId} {cs:Array Value} (hg:Blk w g t cs) (h1:t≠351) (h2:t≠232):¬ Q.foot g:=by
 rintro ⟨i,hi,rfl | hv⟩
 · exact hg.ne_ (h.que i hi).blk h1 rfl
 · exact (h.que i hi).own.blk_ne hg (Ne.symm h2) hv
theorem QX.ne_map {w:World} {q:Nat} {Q:Qs} (h:QX w q Q) {P':Program} {K:TypeId} {α:Type} [DecidableEq α] {E:KeyEnc P' K α} {g:Nat} {l:List (α × Value)} (hg:HasMap E w g l):¬ Q.foot g:=by
 rintro ⟨i,hi,rfl | hv⟩
 · exact hg.ne_blk (h.que i hi).blk rfl
 · obtain ⟨cs,h1⟩:=(h.que i hi).own.heap hv
   exact hg.ne_blk h1 rfl
structure STX (w0:World) (base:Nat) (w:World) (S:Sx) (Q:Qs) (M:List Msg) (n t f:Int):Prop where
 hd:Blk w S.s 94 #[.pointer (some ⟨S.T.tb,0,none⟩),.pointer (some ⟨S.c,0,none⟩),.pointer (some ⟨S.x,0,none⟩),.int .i64 S.cap,.map (some S.q)]
 tbl:∃ X:List MB,X.map MB.m=M∧TBX base w S.T X
 ctr:Ctr w S.c n t f S.vv S.dd
 vd:S.dd=0∨S.dd=1∧S.vv=f
 idx:IdxU 0 w S.x S.u (M.map Msg.uid)
 qx:QX w S.q Q
 as_:¬ S.T.foot S.s
 ac:¬ S.T.foot S.c
 ax:¬ S.T.foot S.x
 aq:¬ S.T.foot S.q
 au:∀ g,S.u.ownBlock=some g→¬ S.T.foot g
 aQ:∀ k,Q.foot k→¬ S.T.foot k
 lo:∀ k,S.foot Q k→w0.heap.size≤k
 hi:S.T.hi≤base
 hb:base≤w.heap.size
 new:New w0 w
 len:(M.length:Int)≤S.cap
 cap:S.cap≤4096
 asc:Asc (M.map Msg.uid)
 below:∀ m ∈ M,m.uid < n
 n1:1≤n∧n≤4294967295
 t1:0≤t∧t < n
section
variable {w0 w w':World} {base:Nat} {S:Sx} {Q:Qs} {M:List Msg} {n t f:Int}
theorem STX.mlen (h:STX w0 base w S Q M n t f):M.length≤4096:=by have:=h.len; have:=h.cap; omega
theorem STX.ok (h:STX w0 base w S Q M n t f):∀ m ∈ M,m.ok∧m.body.length≤65536:=by
 obtain ⟨X,rfl,hX⟩:=h.tbl
 intro m hm
 obtain ⟨x,hx,rfl⟩:=List.mem_map.1 hm
 exact hX.ok x hx
theorem STX.nd (h:STX w0 base w S Q M n t f):(M.map Msg.uid).Nodup:=h.asc.imp fun h=>Int.ne_of_lt h
theorem STX.q_ne (h:STX w0 base w S Q M n t f):S.q≠S.s∧S.q≠S.c∧S.q≠S.x∧(∀ g,S.u.ownBlock=some g→S.q≠g)∧¬ Q.foot S.q :=
 ⟨h.qx.map.ne_blk h.hd,h.qx.map.ne_blk h.ctr,h.qx.map.ne_blk h.idx.1,fun g hg=>by obtain ⟨cs,h1⟩:=h.idx.2.1.heap hg; exact h.qx.map.ne_blk h1,h.qx.ne_map h.qx.map⟩
theorem STX.s_ne (h:STX w0 base w S Q M n t f):S.s≠S.c∧S.s≠S.x∧(∀ g,S.u.ownBlock=some g→S.s≠g)∧¬ Q.foot S.s :=
 ⟨h.hd.ne_ h.ctr (by decide),h.hd.ne_ h.idx.1 (by decide),fun g hg=>by obtain ⟨cs,h1⟩:=h.idx.2.1.heap hg; exact h.hd.ne_ h1 (by decide),h.qx.ne h.hd (by decide) (by decide)⟩
theorem STX.c_ne (h:STX w0 base w S Q M n t f):S.c≠S.x∧(∀ g,S.u.ownBlock=some g→S.c≠g)∧¬ Q.foot S.c :=
 ⟨Blk.ne_ h.ctr h.idx.1 (by decide),fun g hg=>by obtain ⟨cs,h1⟩:=h.idx.2.1.heap hg; exact Blk.ne_ h.ctr h1 (by decide),h.qx.ne h.ctr (by decide) (by decide)⟩
theorem STX.x_ne (h:STX w0 base w S Q M n t f):(∀ g,S.u.ownBlock=some g→S.x≠g)∧¬ Q.foot S.x :=
 ⟨fun g hg=>by obtain ⟨cs,h1⟩:=h.idx.2.1.heap hg; exact Blk.ne_ h.idx.1 h1 (by decide),h.qx.ne h.idx.1 (by decide) (by decide)⟩
theorem STX.u_ne (h:STX w0 base w S Q M n t f):∀ g,S.u.ownBlock=some g→¬ Q.foot g:=fun g hg=>by
 obtain ⟨cs,h1⟩:=h.idx.2.1.heap hg
 exact h.qx.ne h1 (by decide) (by decide)
theorem STX.foot_lt (h:STX w0 base w S Q M n t f) {k:Nat} (hk:S.foot Q k):k < w.heap.size:=by
 have hb:=h.hb
 have hi:=h.hi
 rcases hk with hk | rfl | rfl | rfl | hk | rfl | hk
 · have:=hk.2; omega
 · exact h.hd.lt
 · exact Blk.lt h.ctr
 · exact h.idx.1.lt
 · exact (h.idx.2.1.block hk).2
 · exact h.qx.map.lt
 · exact Qs.lt h.qx hk
theorem STX.keep {R:Nat→Prop} (h:STX w0 base w S Q M n t f) (hf:Fr R w w') (hR:∀ k,S.foot Q k→¬ R k) (hRb:∀ v l,Own (intE .u8) 5 base w v l→∀ b,v.ownBlock=some b→¬ R b) (hR0:∀ k,R k→w0.heap.size≤k):STX w0 base w' S Q M n t f:=by
 obtain ⟨X,hXm,hX⟩:=h.tbl
 refine { h with
  hd:=hf.blk h.hd (hR _ (.inr (.inl rfl)))
  tbl:=⟨X,hXm,hX.fr hf (fun k hk hT=>hR k (.inl hT) hk) hRb⟩
  ctr:=hf.blk h.ctr (hR _ (.inr (.inr (.inl rfl))))
  idx:=h.idx.fr hf (hR _ (.inr (.inr (.inr (.inl rfl))))) fun b hb=>hR _ (.inr (.inr (.inr (.inr (.inl hb)))))
  qx:=h.qx.fr hf (hR _ (.inr (.inr (.inr (.inr (.inr (.inl rfl))))))) fun k hk=>hR k (.inr (.inr (.inr (.inr (.inr (.inr hk))))))
  hb:=Nat.le_trans h.hb hf.size
  new:=New.two h.new hf hR0 }
theorem STX.more (h:STX w0 base w S Q M n t f) (hn:New w w'):STX w0 base w' S Q M n t f:=h.keep hn (fun _ _ h=>h.elim) (fun _ _ _ _ _ h=>h) fun _ h=>h.elim
end
end Go.Proofs.YtliimglbbiebiaaGreatDoor
end

