/- What is called of the library: texts parted, looked through, numbers read; what is told to a builder. -/
import Derived.Test.YtphhijelneaedaaDoorYax
import Derived.Test.YtphhijelneaedaaDoorSox
import Derived.Test.YtphhijelneaedaaDoorSs
import Derived.Test.YtphhijelneaedaaDoorSbx
import Derived.Test.YtphhijelneaedaaDoorEn
import Derived.Test.YtphhijelneaedaaDoorEz
import Derived.Test.YtphhijelneaedaaDoorFzx
import Derived.KernelRfl
import Derived.Lib.ItoaLen
import Derived.Lib.IndexAny
namespace Go.Proofs.YtphhijelneaedaaDoor
open Go.RowKit
set_option linter.unusedSimpArgs false
set_option linter.unusedVariables false
set_option linter.unusedSectionVars false
set_option maxHeartbeats 4000000
set_option maxRecDepth 100000
section
abbrev knP (T:TypeId) (fr:Nat×Nat):Ent:=.row 3 (pow10O T fr)
def i64b (n:Int):Prop:=-9223372036854775808<=n/\n<=9223372036854775807
theorem itoa_len {n:Int} (h:i64b n):(Lib.itoa n).length<=21:=Lib.itoa_length_le n h.1 h.2
abbrev VS:=List V
theorem itoa_dc (T:TypeId) (fr:Nat×Nat) (n:Int) (F:Own):(i64b n)->DC Tryd.prog 81 [.int .i64 n] ([knP T fr]++F) fun d G=>d = .str (Lib.itoa n)/\G=[knP T fr]++F:=fun h =>
 DC.itoa layIt (by kernel_rfl) (by kernel_rfl) T fr n F h
abbrev knM (m:Int):Ent:=.know 0 [.int .i64 m]
def levsC (x:UInt8) (l:List UInt8):List (List UInt8):=(Lib.splitB (bs [x]) 0 (Lib.countB (bs l) (bs [x])) (bs l)).map (·.data.toList)
theorem bs_backY (b:ByteArray):bs b.data.toList=b:=by cases b;simp [bs]
theorem split_oneY:∀ (n:Nat) (cs:List V),n=cs.length->splitV 1 false n cs=cs
 | 0,[],_=>rfl
 | n+1,c::cs,h=>by
  simp only [splitV,Bool.false_eq_true,if_false,List.getD_cons_zero,List.drop_succ_cons,List.drop_zero,split_oneY n cs (by simpa using h)]
theorem levsC_len (x:UInt8) (l:List UInt8):(levsC x l).length=Lib.countB (bs l) (bs [x])+1:=by
 unfold levsC
 rw [List.length_map,Lib.splitB_all (bs [x]) (by simp [bs,ByteArray.size]) 0 _ (bs l) rfl]
theorem splitC_dc (m:Int) (x:UInt8) (l:List UInt8) (F:Own):l.length<=1000000000->DC Tryd.prog 54 [.str l, .str [x]] ([knM m]++F) fun d G=>d = .sl ((levsC x l).map V.str)/\G=[knM m]++F:=fun hl=>by
 refine ⟨by kernel_rfl,fun xs w hs hsz hr=>?_⟩
 have h0:=hr 0 (by simp)
 have h1:=hr 1 (by simp)
 obtain ⟨x0,x1,rfl⟩:=two_of hsz
 have e0:x0 = .string (bs l):=by
  have h0:R (stable w ([knM m]++F)) w x0 (.str l):=h0
  cases h0;rfl
 have e1:x1 = .string (bs [x]):=by
  have h1:R (stable w ([knM m]++F)) w x1 (.str [x]):=h1
  cases h1;rfl
 subst e0;subst e1
 have hh:=hs.holds (knM m) (List.mem_cons_self ..)
 obtain ⟨k1,k2⟩:=hh 0 (by simp)
 have k2:R (stable w ([knM m]++F)) w (cellAt w ⟨0,0,none⟩) (.int .i64 m):=k2
 have hm:w.cell? ⟨0,0,none⟩=some (.int .i64 m):=by
  have k3:=k1.1
  unfold cellAt at k2
  cases hc:w.cell? ⟨0,0,none⟩ with
  | none=>rw [hc] at k3;cases k3
  | some v=>rw [hc] at k2;cases k2;rfl
 have c:=Any.strings_Split laySplit (by kernel_rfl) (bs l) (bs [x]) m w (by rw [show (bs l).size=l.length by simp [bs,ByteArray.size]];omega) hm (by simp [bs,ByteArray.size])
 refine c.mono ?_
 rintro e w' ⟨rfl,rfl⟩
 have hz:((levsC x l).map V.str).length=(Lib.countB (bs l) (bs [x])+1) * 1:=by rw [List.length_map,levsC_len,Nat.mul_one]
 have rr:=row_rel (w:=w) hs ((Lib.splitB (bs [x]) 0 (Lib.countB (bs l) (bs [x])) (bs l)).map Value.string).toArray (laySplit_ren.t 9) ((levsC x l).map V.str) (Lib.countB (bs l) (bs [x])+1) 1 false (by decide) (fun _=>⟨rfl,by simp [V.flat]⟩) (by simp [levsC]) hz (fun k hk=>by
  have hk':k<(Lib.splitB (bs [x]) 0 (Lib.countB (bs l) (bs [x])) (bs l)).length:=by simpa [levsC] using hk
  have e1:(((Lib.splitB (bs [x]) 0 (Lib.countB (bs l) (bs [x])) (bs l)).map Value.string).toArray).getD k undef=Value.string (bs ((Lib.splitB (bs [x]) 0 (Lib.countB (bs l) (bs [x])) (bs l))[k]).data.toList):=by
   rw [bs_backY];simp [Array.getD_eq_getD_getElem?,hk']
  have e2:((levsC x l).map V.str).getD k .any = .str ((Lib.splitB (bs [x]) 0 (Lib.countB (bs l) (bs [x])) (bs l))[k]).data.toList:=by
   simp [levsC,List.getD_eq_getElem?_getD,hk']
  rw [e1,e2];exact .str _)
 rw [split_oneY _ _ (by rw [hz,Nat.mul_one])] at rr
 exact ⟨_,_,_,rfl,(Sim.new hs _).1,(Sim.new hs _).2,rr,rfl,rfl⟩
theorem bs_extY (l:YS) (a b:Nat):(bs l).extract a b=bs ((l.take b).drop a):=by
 unfold bs
 apply ByteArray.ext
 simp [ByteArray.data_extract,List.drop_take]
theorem bs_listY (l:YS):(bs l).data.toList=l:=by simp [bs]
theorem idx_ofY (x:UInt8) (l:YS):Lib.indexB (bs l) (bs [x])=Lib.indexByte l x:=by
 rw [Lib.one _ _ (by simp [bs,ByteArray.size]),bs_listY]
 congr 1
 simp [bs]
 rfl
theorem levsC_spl (x:UInt8):∀ (n:Nat) (l:YS),l.length<=n->levsC x l=splC x l:=by
 intro n
 induction n with
 | zero =>
  intro l h
  obtain rfl:l=[]:=List.length_eq_zero_iff.1 (by omega)
  have hb:Lib.indexB (bs []) (bs [x]) = -1:=by rw [idx_ofY];rfl
  unfold levsC
  rw [Lib.countB_miss _ _ hb,Lib.splitB_zero]
  simp only [List.map_cons,List.map_nil,bs_listY]
  rfl
 | succ n ih =>
  intro l h
  have hge:=Lib.indexByte_ge l x
  rcases (show Lib.indexByte l x = -1\/0<=Lib.indexByte l x by omega) with hi | hi
  · have hb:Lib.indexB (bs l) (bs [x]) = -1:=by rw [idx_ofY,hi]
    unfold levsC
    rw [Lib.countB_miss _ _ hb,Lib.splitB_zero]
    simp only [List.map_cons,List.map_nil,bs_listY]
    exact (splC_none (Lib.indexByte_none hi)).symm
  · obtain ⟨i,hi⟩:=Int.eq_ofNat_of_zero_le hi
    have hb:Lib.indexB (bs l) (bs [x])=(i:Int):=by rw [idx_ofY,hi]
    obtain ⟨h1,h2⟩:=Lib.indexByte_some hi
    have hlt:i<l.length:=by
     rcases Nat.lt_or_ge i l.length with h3 | h3
     · exact h3
     · rw [List.getElem?_eq_none h3] at h1;cases h1
    have e:(bs l).extract (i+(bs [x]).size) (bs l).size=bs (l.drop (i+1)):=by
     rw [bs_extY]
     have z1:(bs l).size=l.length:=by simp [bs,ByteArray.size]
     have z2:(bs [x]).size=1:=by simp [bs,ByteArray.size]
     rw [z1,z2,List.take_length]
    have e0:(bs l).extract 0 (i+0)=bs (l.take i):=by rw [bs_extY];simp
    rw [splC_hit h1 h2,<-ih (l.drop (i+1)) (by rw [List.length_drop];omega)]
    unfold levsC
    rw [Lib.countB_hit _ _ i (by simp [bs,ByteArray.size]) hb,Nat.add_comm,Lib.splitB_hit _ _ _ _ i hb,e,e0]
    simp only [List.map_cons,bs_listY]
theorem splitY_dc (m:Int) (l:List UInt8) (F:Own):l.length<=1000000000->DC Tryd.prog 54 [.str l, .str [10]] ([knM m]++F) fun d G=>d = .sl ((splC 10 l).map V.str)/\G=[knM m]++F:=fun hl=>by
 rw [<-levsC_spl 10 _ l (Nat.le_refl _)];exact splitC_dc m 10 l F hl
theorem idxb_dc (c:UInt8) (F:Own):True->DC Tryd.prog 145 [.str [48,49,50,51,52,53,54,55,56,57,97,98,99,100,101,102], .int .u8 (c.toNat:Int)] ([]++F) fun d G=>d = .int .i64 (Lib.indexByte digsY c)/\G=[]++F:=fun _=>by
 refine ⟨by kernel_rfl,fun xs w hs hsz hr=>?_⟩
 have h0:=hr 0 (by simp)
 have h1:=hr 1 (by simp)
 obtain ⟨x0,x1,rfl⟩:=two_of hsz
 have e0:x0 = .string (bs digsY):=by
  have h0:R (stable w ([]++F)) w x0 (.str digsY):=h0
  cases h0;rfl
 have e1:x1 = .int .u8 (c.toNat:Int):=by
  have h1:R (stable w ([]++F)) w x1 (.int .u8 (c.toNat:Int)):=h1
  cases h1;rfl
 subst e0;subst e1
 refine (Any.strings_IndexByte layIb (bs digsY) (c.toNat:Int) w).mono ?_
 rintro e w' ⟨rfl,rfl⟩
 refine ⟨_,_,_,rfl,hs, .refl _ _,?_,rfl,rfl⟩
 rw [bs_listY,Int.toNat_natCast,show c.toNat.toUInt8=c from UInt8.ofNat_toNat]
 exact .int _ _
theorem cont_dc (sp:YS) (c:UInt8) (F:Own):True->DC Tryd.prog 52 [.str sp, .str [c]] ([]++F) fun d G=>d = .bool (sp.contains c)/\G=[]++F:=fun _=>by
 refine ⟨by kernel_rfl,fun xs w hs hsz hr=>?_⟩
 have h0:=hr 0 (by simp)
 have h1:=hr 1 (by simp)
 obtain ⟨x0,x1,rfl⟩:=two_of hsz
 have e0:x0 = .string (bs sp):=by
  have h0:R (stable w ([]++F)) w x0 (.str sp):=h0
  cases h0;rfl
 have e1:x1 = .string ⟨#[c]⟩:=by
  have h1:R (stable w ([]++F)) w x1 (.str [c]):=h1
  cases h1;rfl
 subst e0;subst e1
 refine (Any.strings_Contains_one layCo (bs sp) c w).mono ?_
 rintro e w' ⟨rfl,rfl⟩
 refine ⟨_,_,_,rfl,hs, .refl _ _,?_,rfl,rfl⟩
 rw [bs_listY,Lib.contains_iff_indexByte]
 exact .bool _
theorem atoi_dc (l:YS) (F:Own):(okNum l/\l.length<=1000000000)->DC Tryd.prog 136 [.str l] ([]++F) fun d G=>d = .tup [.int .i64 (numV l), .raw .nilIface]/\G=[]++F:=fun ⟨hl,hz⟩=>by
 refine ⟨by kernel_rfl,fun xs w hs hsz hr=>?_⟩
 have h0:=hr 0 (by simp)
 obtain ⟨x0,rfl⟩:=one_ofB hsz
 have e0:x0 = .string (bs l):=by
  have h0:R (stable w ([]++F)) w x0 (.str l):=h0
  cases h0;rfl
 subst e0
 refine (Any.strconv_Atoi_ok layAt (bs l) (by rw [show (bs l).size=l.length by simp [bs,ByteArray.size]];omega) (numV l) (by rw [bs_listY];exact num_ok hl) w).mono ?_
 rintro e w' ⟨rfl,hw⟩
 have key:Sim w' ([]++F)/\Ext w ([]++F) w' ([]++F):=by
  rcases hw with rfl | ⟨t,rfl⟩
  · exact ⟨hs, .refl _ _⟩
  · exact hs.more rfl rfl rfl (by rw [Lib.bytesWorld_size];exact Nat.le_succ _) (fun b hb=>Lib.bytesWorld_at_old w _ t b hb) (Nat.le_succ _)
 exact ⟨_,_,_,rfl,key.1,key.2, .tup _ _ rfl (fun k hk=>by
  match k,hk with
  | 0,_=>exact .int _ _
  | 1,_=>exact .raw _),rfl,rfl⟩
theorem getD_drop' (l:List V) (n i:Nat) (d:V):(l.drop n).getD i d=l.getD (n+i) d:=by simp [List.getD_eq_getElem?_getD,List.getElem?_drop]
theorem OnTb_id {H:Own} {b:Nat} {G:TypeId->List V->(Ent->Own)->Prop} (h:OnTb H b G):OnTb H b G:=h
theorem OnBa_id {H:Own} {v:Value} {G:TypeId->List UInt8->(Ent->Own)->Prop} (h:OnBa H v G):OnBa H v G:=h
def liesB (T:TypeId) (off n:Nat):Prop:=liesAt Tryd.prog Tryd.prog.depth T (n / Tryd.prog.cellsOf T) off 105 1=true
theorem layCk:Go.Proofs.Lays.n240 Tryd.prog layJoin_ren:={ layJoin with }
theorem layXtra:Go.Proofs.Builder.Extra Tryd.prog layJoin_ren where
 sizeBuilder:=by kernel_rfl
 liesBuilder:=by kernel_rfl
 t5:=Tryd.underlying5
 a5:=Tryd.isAgg5
 z5:=Tryd.sizeOf5
 v5:=Tryd.zeroValue5
 infoByte:=by kernel_rfl
 cellsByte:=by kernel_rfl
 sizeByte:=by kernel_rfl
 neB5:=by decide
theorem layStr2:Go.Proofs.Lays.n169 Tryd.prog layJoin_ren:={ layJoin with }
structure BAt (T:TypeId) (bk off:Nat) (cs:List V) (v:Value) (n:Nat):Prop where
 u:∃ u,cs.getD off .any=selfP bk off u
 a:cs.getD (off+1) .any = .ar v n
 lt:off+1<cs.length
 lies:liesB T off cs.length
def lay2 (bk off:Nat) (cs:List V) (v:Value) (n:Nat):List V:=layV (layV cs off [selfP bk off true]) (off+1) [.ar v n]
theorem lay2_is (bk off:Nat) (cs:List V) (v:Value) (n:Nat):lay2 bk off cs v n=layV (layV cs off [selfP bk off true]) (off+1) [.ar v n]:=rfl
theorem lay_lenB (cs d:List V) (k:Nat) (h:k+d.length<=cs.length):(layV cs k d).length=cs.length:=(lay_at cs d k h).1
theorem lay_get (cs:List V) (k j:Nat) (x:V) (h:k+1<=cs.length):(layV cs k [x]).getD j .any=if j=k then x else cs.getD j .any:=by
 rw [(lay_at cs [x] k h).2 j]
 by_cases e:j=k
 · subst e;rw [if_pos (by simp),if_pos rfl,Nat.sub_self];rfl
 · rw [if_neg (by simp;omega),if_neg e]
theorem lay2_len {bk off:Nat} {cs:List V} {v:Value} {n:Nat} (h:off+1<cs.length):(lay2 bk off cs v n).length=cs.length:=by
 unfold lay2;rw [lay_lenB _ _ _ (by rw [lay_lenB _ _ _ (by simp;omega)];simp;omega),lay_lenB _ _ _ (by simp;omega)]
theorem BAt.next {T:TypeId} {bk off:Nat} {cs:List V} {v:Value} {n:Nat} (h:BAt T bk off cs v n) (v':Value) (n':Nat):BAt T bk off (lay2 bk off cs v' n') v' n':=by
 have hlt:=h.lt
 have l1:(layV cs off [selfP bk off true]).length=cs.length:=lay_lenB _ _ _ (by simp;omega)
 refine ⟨⟨true,?_⟩,?_,by rw [lay2_len hlt];exact hlt,by rw [lay2_len hlt];exact h.lies⟩
 · unfold lay2;rw [lay_get _ _ _ _ (by omega),if_neg (by omega),lay_get _ _ _ _ (by omega),if_pos rfl]
 · unfold lay2;rw [lay_get _ _ _ _ (by omega),if_pos rfl]
theorem lay_mid1 (A C:List V) (x y:V) {k:Nat} (hk:k=A.length):layV (A++x::C) k [y]=A++y::C:=by
 subst hk
 unfold layV
 simp
theorem two_split {cs:List V} {off:Nat} (h:off+1<cs.length):∃ A C x y,cs=A++x::y::C/\A.length=off:=by
 refine ⟨cs.take off,cs.drop (off+2),cs[off],cs[off+1],?_,by rw [List.length_take];omega⟩
 rw [<-List.drop_eq_getElem_cons,<-List.drop_eq_getElem_cons,List.take_append_drop]
theorem lay2_eq {bk off:Nat} {A C:List V} {x y:V} (hA:A.length=off) (v:Value) (n:Nat):lay2 bk off (A++x::y::C) v n=A++selfP bk off true :: .ar v n::C:=by
 unfold lay2
 rw [lay_mid1 _ _ _ _ hA.symm]
 have e:A++selfP bk off true::y::C=(A++[selfP bk off true])++y::C:=by simp
 rw [e,lay_mid1 _ _ _ _ (by rw [List.length_append,hA];rfl)]
 simp
theorem lay2_lay2 {bk off:Nat} {cs:List V} {v v':Value} {n n':Nat} (h:off+1<cs.length):lay2 bk off (lay2 bk off cs v n) v' n'=lay2 bk off cs v' n':=by
 obtain ⟨A,C,x,y,rfl,hA⟩:=two_split h
 rw [lay2_eq hA,lay2_eq hA,lay2_eq hA]
theorem ccheck_dc (T:TypeId) (bk off:Nat) (cs:List V) (v:Value) (n:Nat) (F:Own):(BAt T bk off cs v n)->DC Tryd.prog 82 [.raw (.pointer (some ⟨bk,off,none⟩))] ([.tb T bk cs]++F) fun d G=>d = .tup []/\G=[.tb T bk (layV cs off [selfP bk off true])]++F:=fun h=>by
 obtain ⟨u,hu⟩:=h.u
 exact DC.ccheck layCk (by kernel_rfl) (by kernel_rfl) T bk off cs u F ⟨hu,by have:=h.lt;omega,h.lies⟩
theorem bstr_dc (T:TypeId) (bk off:Nat) (cs:List V) (v:Value) (l:List UInt8) (F:Own):(BAt T bk off cs v l.length/\l.length<=140737488355328)->DC Tryd.prog 60 [.raw (.pointer (some ⟨bk,off,none⟩))] ([.tb T bk cs, .ba 5 v l]++F) fun d G=>d = .str l/\G=[.tb T bk cs]++F:=fun h =>
 DC.bstring layStr2 layXtra (by kernel_rfl) T bk off cs v l F ⟨h.1.a,h.1.lt,h.2⟩
theorem join_dc (ws:List (List UInt8)) (sep:List UInt8) (F:Own):(ws.length<=1000000/\(Lib.join ws sep).length<=140737488355328)->DC Tryd.prog 58 [.sl (ws.map V.str), .str sep] ([loose]++F) fun d G=>d = .str (Lib.join ws sep)/\G=[loose]++F:=fun h =>
 DC.join layJoin layXtra (by kernel_rfl) ws sep F h
theorem appB_s (l xs:List UInt8) (h:l.length+xs.length<=140737488355328):AppB Tryd.prog 52 9 5 l xs:=by
 unfold AppB;rw [ty_52,ty_9,ty_5];exact ⟨rfl,rfl,rfl,by decide,by decide,by decide,rfl,rfl,rfl,h⟩
theorem appB_b (l xs:List UInt8) (h:l.length+xs.length<=140737488355328):AppB Tryd.prog 52 52 5 l xs:=by
 unfold AppB;rw [ty_52,ty_5];exact ⟨rfl,rfl,rfl,by decide,by decide,by decide,rfl,rfl,rfl,h⟩
section
variable {o:Oper} {f:Operand->V} {H:Own} {K:V->Own->Prop}
theorem gs_arS {S S':Addr->Prop} {w w':World} {v:Value} (h:R S w v (.gs (.slice none 0 0) [])):R S' w' v (.ar (.slice none 0 0) 0):=by cases h;exact .ar _ _ _ (Nat.le_refl _) (fun _=>rfl)
theorem DOp.allocS_ (hop:o.op = .alloc 105) (h:∀ b,K (.raw (.pointer (some ⟨b,0,none⟩))) (.tb 105 b [.raw (.pointer none), .ar (.slice none 0 0) 0] :: .ba 5 (.slice none 0 0) []::H)):DOp Tryd.prog o f H K :=
 DOp.step fun a w hs hr=>by
  obtain ⟨i,d,hi,_,_,_,_,hz⟩:=ty_info (P:=Tryd.prog) (t:=105) rfl (by rw [ty_105];decide) (by rw [ty_105];decide)
  cases hzz:i.zero with
  | none=>rw [hzz,ty_105] at hz;simp at hz
  | some z =>
   obtain ⟨g1,g2⟩:=hs.add (w':=w) (e1:=.ba 5 (.slice none 0 0) []) rfl rfl rfl (Nat.le_refl _) (fun _ _=>rfl) (fun _ h=>h.elim) fun _=>⟨rfl,rfl,rfl⟩
   obtain ⟨z1,z2⟩:=zero_rel (P:=Tryd.prog) (S:=stable w (.ba 5 (.slice none 0 0) []::H)) (w:=w) hi hzz hz
   have hl:(ty Tryd.prog 105).zero.length=2:=by rw [ty_105];rfl
   obtain ⟨k1,k2⟩:=g1.add (w':=w.alloc (.cells z.cells 105)) (e1:=.tb 105 w.heap.size [.raw (.pointer none), .ar (.slice none 0 0) 0]) rfl rfl rfl (by simp) (fun b hb=>Below.heap_alloc w _ b hb) (fun b h=>Nat.le_of_eq h.symm) fun hst =>
    ⟨z.cells,(0,0),heap_alloc_new w _, .inl rfl,by rw [z1,hl];rfl,fun k hk=>by
      have e0:(ty Tryd.prog 105).zero.getD 0 .any = .raw (.pointer none):=by rw [ty_105];rfl
      have e1:(ty Tryd.prog 105).zero.getD 1 .any = .gs (.slice none 0 0) []:=by rw [ty_105];rfl
      match k,hk with
      | 0,_=>have:=z2 0 (by rw [hl];decide);rw [e0] at this;exact this.mono hst
      | 1,_=>have:=z2 1 (by rw [hl];decide);rw [e1] at this;exact gs_arS this⟩
   refine ⟨.pointer (some ⟨w.heap.size,0,none⟩),_,_,_,?_,⟨k1,g2.trans k2⟩, .raw _,h _⟩
   unfold execOp
   rw [hop]
   simp [Instr.alloc,zeroValue,typeInfo,program,Sem.run,hi,hzz,newVar,newRow]
end
theorem bat0 (b:Nat):BAt 105 b 0 [.raw (.pointer none), .ar (.slice none 0 0) 0] (.slice none 0 0) 0:=⟨⟨false,rfl⟩,rfl,by decide,by unfold liesB;kernel_rfl⟩
attribute [local irreducible] DW SeqD DV DOp DC DVX lay2 selfP liesB
theorem s_wstr_dc {P Q:Prop} (q:Q) (h:Hid Q->P:=by (intro q;simp (maxSteps:=1000000) (disch:=omega) only [push_cast,↓reduceIte,reduceCtorEq,Nat.reduceAdd,Nat.reduceMul,Nat.reduceLT,Nat.reduceLeDiff,Nat.reduceEqDiff,Nat.reduceSub,Int.reduceToNat,Int.reduceLT,Int.reduceLE,Int.reduceAdd,Int.reduceSub,Int.reduceMul,Int.reduceNeg,Nat.reduceBEq,Int.reduceBEq,Int.reduceBNe,Nat.reduceBNe,Int.reduceEq,getD_drop',z1,l1,addr_mk,u8];exact q.1)):P:=h ⟨q⟩
section
attribute [local push_cast 2000] getD_drop' addr_mk u8
theorem wstr_dc (T:TypeId) (bk off:Nat) (cs:List V) (v:Value) (l:List UInt8) (s2:List UInt8) (F:Own):(BAt T bk off cs v l.length/\l.length+s2.length<=140737488355328)->DC Tryd.prog 57 [.raw (.pointer (some ⟨bk,off,none⟩)), .str s2] ([.tb T bk cs, .ba 5 v l]++F) fun d G=>∃ v',d = .tup [.int .i64 s2.length, .raw .nilIface]/\G=[.tb T bk (lay2 bk off cs v' (l++s2).length), .ba 5 v' (l++s2)]++F:=by
 intro hA
 obtain ⟨hB,hm⟩:=hA
 refine DC.bodyS (n_:=19) (show Tryd.prog.funcs[57]? = some Tryd.f57 by kernel_rfl) rfl rfl (by rfl) ?_
 simp only [env0,List.cons_append,List.nil_append]
 have kw:=ksIs [0,1,4,5]
 have ow:=ownIs []
 have hlt:=hB.lt
 have l1:(layV cs off [selfP bk off true]).length=cs.length:=lay_lenB _ _ _ (by simp;omega)
 have z1:(layV cs off [selfP bk off true]).getD (off+1) .any = .ar v l.length:=by rw [lay_get _ _ _ _ (by omega),if_neg (by omega)];exact hB.a
 repeat' (first
  | ((refine DOp.loadT_ rfl rfl ?_);(repeat (with_reducible first | refine OnTb.here ?_ | refine OnTb.next ?_));(fail_if_success (with_reducible apply OnTb_id));refine s_wstr_dc ?_)
  | ((refine DOp.storeT_ rfl rfl ?_);(repeat (with_reducible first | refine OnTb.here ?_ | refine OnTb.next ?_));(fail_if_success (with_reducible apply OnTb_id));refine s_wstr_dc ?_)
  | ((refine DOp.appba_ rfl rfl rfl ?_);(repeat (with_reducible first | refine OnBa.here ?_ | refine OnBa.next ?_));(fail_if_success (with_reducible apply OnBa_id));(refine And.intro (by first | exact appB_s _ _ (by omega) | exact appB_b _ _ (by simp only [List.length_cons,List.length_nil];omega)) ?_);(with_reducible intro w1);refine s_wstr_dc ?_)
  | refine g_ ?_
  | ((with_reducible refine And.intro ?_ ?_);(exact sv))
  | (refine DW.cond (by rfl) ?_ ?_<;>(first | exact i0_ | (intro hb;(try simp only [↓reduceCtorEq,not_true_eq_false,not_false_eq_true,hbs,Int.reduceBEq,Int.reduceBNe,Int.reduceEq] at hb);(try refine s_wstr_dc ?_))))
  | ((with_reducible refine FVg_cases ?_ ?_)<;>(intro hb;rw [hb];revert hb;(first | exact i0_ | (intro hb;(try simp only [↓reduceCtorEq,not_true_eq_false,not_false_eq_true,hbs,Int.reduceBEq,Int.reduceBNe,Int.reduceEq] at hb);(try refine s_wstr_dc ?_)))))
  | ((first | refine rn_ ?_ | refine kn_ ?_)<;>(refine s_wstr_dc ?_))
  | (refine p_ (ccheck_dc _ _ _ _ _ _ _) ?_;rintro d H1 ⟨rfl,rfl⟩<;>refine s_wstr_dc ?_)
  | ((refine on_ ?_);refine s_wstr_dc ?_)
  | refine f_ ?_
  | with_reducible intro b)
 all_goals first
 | (refine ⟨_,_,le.rfl_,⟨w1,rfl,rfl⟩,?_⟩;(simp only [lay2_is,List.length_append,List.length_cons,List.length_nil,Nat.zero_add]);(exact sub_);done)
 | (trace_state;fail)
end
theorem s_wbyte_dc {P Q:Prop} (q:Q) (h:Hid Q->P:=by (intro q;simp (maxSteps:=1000000) (disch:=omega) only [push_cast,↓reduceIte,reduceCtorEq,Nat.reduceAdd,Nat.reduceMul,Nat.reduceLT,Nat.reduceLeDiff,Nat.reduceEqDiff,Nat.reduceSub,Int.reduceToNat,Int.reduceLT,Int.reduceLE,Int.reduceAdd,Int.reduceSub,Int.reduceMul,Int.reduceNeg,Nat.reduceBEq,Int.reduceBEq,Int.reduceBNe,Nat.reduceBNe,Int.reduceEq,getD_drop',z1,l1,addr_mk,u8];exact q.1)):P:=h ⟨q⟩
section
attribute [local push_cast 2000] getD_drop' addr_mk u8
theorem wbyte_dc (T:TypeId) (bk off:Nat) (cs:List V) (v:Value) (l:List UInt8) (c:UInt8) (F:Own):(BAt T bk off cs v l.length/\l.length+1<=140737488355328)->DC Tryd.prog 59 [.raw (.pointer (some ⟨bk,off,none⟩)), .int .u8 (c.toNat:Int)] ([.tb T bk cs, .ba 5 v l]++F) fun d G=>∃ v',d = .raw .nilIface/\G=[.tb T bk (lay2 bk off cs v' (l++[c]).length), .ba 5 v' (l++[c])]++F:=by
 intro hA
 obtain ⟨hB,hm⟩:=hA
 refine DC.bodyS (n_:=17) (show Tryd.prog.funcs[59]? = some Tryd.f59 by kernel_rfl) rfl rfl (by rfl) ?_
 simp only [env0,List.cons_append,List.nil_append]
 have kw:=ksIs [0,1,4]
 have ow:=ownIs []
 have hlt:=hB.lt
 have l1:(layV cs off [selfP bk off true]).length=cs.length:=lay_lenB _ _ _ (by simp;omega)
 have z1:(layV cs off [selfP bk off true]).getD (off+1) .any = .ar v l.length:=by rw [lay_get _ _ _ _ (by omega),if_neg (by omega)];exact hB.a
 repeat' (first
  | ((refine DOp.loadT_ rfl rfl ?_);(repeat (with_reducible first | refine OnTb.here ?_ | refine OnTb.next ?_));(fail_if_success (with_reducible apply OnTb_id));refine s_wbyte_dc ?_)
  | ((refine DOp.storeT_ rfl rfl ?_);(repeat (with_reducible first | refine OnTb.here ?_ | refine OnTb.next ?_));(fail_if_success (with_reducible apply OnTb_id));refine s_wbyte_dc ?_)
  | ((refine DOp.appba_ (xs:=[c]) rfl rfl rfl ?_);(repeat (with_reducible first | refine OnBa.here ?_ | refine OnBa.next ?_));(fail_if_success (with_reducible apply OnBa_id));(refine And.intro (by first | exact appB_s _ _ (by omega) | exact appB_b _ _ (by simp only [List.length_cons,List.length_nil];omega)) ?_);(with_reducible intro w1);refine s_wbyte_dc ?_)
  | refine g_ ?_
  | ((with_reducible refine And.intro ?_ ?_);(exact sv))
  | (refine DW.cond (by rfl) ?_ ?_<;>(first | exact i0_ | (intro hb;(try simp only [↓reduceCtorEq,not_true_eq_false,not_false_eq_true,hbs,Int.reduceBEq,Int.reduceBNe,Int.reduceEq] at hb);(try refine s_wbyte_dc ?_))))
  | ((with_reducible refine FVg_cases ?_ ?_)<;>(intro hb;rw [hb];revert hb;(first | exact i0_ | (intro hb;(try simp only [↓reduceCtorEq,not_true_eq_false,not_false_eq_true,hbs,Int.reduceBEq,Int.reduceBNe,Int.reduceEq] at hb);(try refine s_wbyte_dc ?_)))))
  | ((first | refine rn_ ?_ | refine kn_ ?_)<;>(refine s_wbyte_dc ?_))
  | (refine p_ (ccheck_dc _ _ _ _ _ _ _) ?_;rintro d H1 ⟨rfl,rfl⟩<;>refine s_wbyte_dc ?_)
  | ((refine on_ ?_);refine s_wbyte_dc ?_)
  | refine f_ ?_
  | with_reducible intro b)
 all_goals first
 | (refine ⟨_,_,le.rfl_,⟨w1,rfl,rfl⟩,?_⟩;(simp only [lay2_is,List.length_append,List.length_cons,List.length_nil,Nat.zero_add]);(exact sub_);done)
 | (trace_state;fail)
end
end
end Go.Proofs.YtphhijelneaedaaDoor
