/- Part 2 of the proof of FnNoticeCut: the plain functions of what it reaches, that Go comes to just their answers, what they answer, and the words that the walks use; conditions: each theorem's own. -/
import Derived.Test.YtfpngfkepeoboaaDoorZFnNoticeCuta
import Derived.Laws.StructEq
import Derived.RowKit
import Derived.Shelf.Strings.Builder1
import Derived.Shelf.Strings.BuilderF
import Derived.Shelf.Strings.BuilderK
import Derived.Shelf.Utf8.RuneCount
import Derived.Shelf.Strconv.Itoa0
import Derived.Shelf.Strconv.Itoa1
import Derived.Shelf.LaysM
import Derived.Shelf.Strconv.Itoa2
import Derived.Shelf.Strconv.Itoa3
import Derived.Shelf.Strings.Search1
import Derived.Shelf.Strings.Search2
import Derived.Shelf.Strings.Search3
import Derived.Shelf.Strings.Cut
import Derived.Shelf.Strings.Count
import Derived.Shelf.Strings.Shaped
import Derived.Shelf.Strings.Prefix
import Derived.Shelf.Strings.Split
import Derived.Shelf.Strings.SplitShaped
import Derived.Shelf.Unicode.Decode
import Derived.Shelf.Strings.RuneCount
import Derived.Shelf.Strings.Explode
import Derived.Shelf.Unicode.DecodeSlow
import Derived.Shelf.Unicode.DecodeAny
import Derived.Shelf.Strings.BuilderCap
import Derived.Test.YtfpngfkepeoboaaDoorProg
import Derived.Below
import Derived.Deep.Draws
import Derived.Deep.AppendLies
import Derived.Maps.AppendAt
import Derived.OwnWalk
import Derived.Laws.BytesArg
import Derived.Laws.MakeOwn
import Derived.Laws.OwnMore
import Derived.Deep.OwnRows
import Derived.Tactics
import Derived.Lib.ConvBytes
import Derived.Laws.Slices
import Derived.WalkKit
import Derived.KernelRfl
import Derived.RowKit3
import Derived.Deep.LoopGhost
import Derived.Deep.QuietTactic
import Derived.BigQuiet
import Derived.WideLaws
import Derived.Deep.DeepCutAuto
import Derived.Deep.CutBlock
import Derived.Deep.RegionHeld3
import Derived.Laws.Rows
import Derived.Lib.AppendStr
import Derived.ArgAppend
import Derived.Laws.IdiomCopy
import Derived.OrdersHeld
import Derived.Laws.BitsLemmas

section
namespace Go.Proofs.YtfpngfkepeoboaaDoorW.PrintWords
open Go.RowKit
section
variable {P:Program} {d:Nat} {xs ys:Array Value} {f:Field} {fs:List Field} {a b:Value} {r s:Bool} {w:World}
theorem eqf_last (hn:(f.name == "_")=false) (ha:(part f.type xs f.offset).run P w=.ok a w) (hb:(part f.type ys f.offset).run P w=.ok b w) (he:(Op.equalIn d f.type a b).run P w=.ok r w):(Op.eqFields d xs ys [f]).run P w=.ok r w:=by
 have hn':f.name ≠ "_" := by simpa using hn
 simp only [Op.eqFields,if_pos hn',Sem.run_bind,ha,hb,he,Result.andThen_ok]
 cases r <;> simp
theorem eqf_cons (hn:(f.name == "_")=false) (ha:(part f.type xs f.offset).run P w=.ok a w) (hb:(part f.type ys f.offset).run P w=.ok b w) (he:(Op.equalIn d f.type a b).run P w=.ok r w) (hr:(Op.eqFields d xs ys fs).run P w=.ok s w):(Op.eqFields d xs ys (f :: fs)).run P w=.ok (r && s) w:=by
 have hn':f.name ≠ "_" := by simpa using hn
 rw [Op.eqFields]
 simp only [if_pos hn',Sem.run_bind,ha,hb,he,Result.andThen_ok]
 cases r
 ·simp
 ·simpa using hr
theorem eqA_of {t:TypeId} {fs:Array Field} (hu:P.underlying t=some (.struct fs)) (hp:P.stoodInHeld t=false) (h:(Op.eqFields d xs ys fs.toList).run P w=.ok r w):(Op.equalIn (d+1) t (.agg xs) (.agg ys)).run P w=.ok r w:=by
 have hf:P.fieldsOf t=fs:=by simp [Program.fieldsOf,hu]
 rw [run_equalIn_struct (P:=P) w d t xs ys (by rw [hf];exact hu) hp,hf]
 exact h
end
end Go.Proofs.YtfpngfkepeoboaaDoorW.PrintWords
end
section
namespace Go.Proofs.YtfpngfkepeoboaaDoor.P
theorem aid_isEmpty (l:List UInt8):(l != ([]:List UInt8)) = !l.isEmpty:=by cases l <;> rfl
theorem aid_isEmpty2 (l:List UInt8):(l == ([]:List UInt8))=l.isEmpty:=by cases l <;> rfl
end Go.Proofs.YtfpngfkepeoboaaDoor.P
end
section
namespace Go.Proofs.YtfpngfkepeoboaaDoor.P
open Go.RowKit Go.Proofs.YtfpngfkepeoboaaDoorW.PrintWords
structure Undec (c:Prop):Prop where mk :: (out:True)
theorem Undec.y_ {c:Prop} (_:c):Undec c:=⟨trivial⟩
theorem Undec.n_ {c:Prop} (_:¬ c):Undec c:=⟨trivial⟩
theorem undecG {b:Bool} (h:Undec (b=true):=by (fail_if_success exact Undec.y_ rfl);(fail_if_success exact Undec.n_ (by decide));exact Undec.mk trivial):Undec (b=true):=h
theorem undecI {c:Prop} (h:Undec c:=by (fail_if_success exact Undec.y_ (by first|(with_reducible assumption)|((try simp only [decide_eq_true_eq,decide_eq_false_iff_not] at *);omega)|decide));(fail_if_success exact Undec.n_ (by first|(with_reducible assumption)|((try simp only [decide_eq_true_eq,decide_eq_false_iff_not] at *);omega)|decide));exact Undec.mk trivial):Undec c:=h
def MetP (J:Prop):Prop:=J
theorem atG {P:Program} {ops:Array Oper} {Q:Exit→Act→World→Prop} {a:Act} {w:World} {rest:List Oper} {d:Option Tmp} {op:Op} {ty:TypeId} {pos:String} {af:Array Edge} {j:Nat} {g b:Bool}
  (_hy:yielded ops a.tmps j=some b) (_nl:Undec (b=true)) (h:∀ K:Prop,Aside0 (K=wpList P ops Q (⟨d,op,ty,pos,af,some (j,g)⟩ :: rest) a w)→MetP K) :
  wpList P ops Q (⟨d,op,ty,pos,af,some (j,g)⟩ :: rest) a w:=h _ ⟨rfl⟩
theorem atI {c A B:Prop} [Decidable c] (_nl:Undec c) (h:∀ K:Prop,Aside0 (K=if c then A else B)→MetP K):if c then A else B:=h _ ⟨rfl⟩
theorem unG {A K:Prop} (hK:Aside0 (K=A)) (h:A):MetP K:=by rw [hK.out];exact h
theorem iteT {c A B:Prop} [Decidable c] (h:A) (hc:c:=by first|rfl|(with_reducible assumption)|omega|decide|exact List.length_eq_zero_iff.mp (by omega)|(intro h_;simp only [h_,List.length_nil] at *;omega)):if c then A else B:=by rw [if_pos hc];exact h
theorem iteF {c A B:Prop} [Decidable c] (h:B) (hc:¬ c:=by first|(with_reducible assumption)|decide|omega|exact fun h_=>h_ (List.length_eq_zero_iff.mp (by omega))|(intro h_;simp only [h_,List.length_nil] at *;omega)):if c then A else B:=by rw [if_neg hc];exact h
theorem upS {P:Program} {o:Oper} {a:Act} {next:Act→World→Prop} {Q:Exit→Act→World→Prop} {r:Result Next} (h:Oper.upon P o a next Q r):Oper.upon P o a next Q r:=h
end Go.Proofs.YtfpngfkepeoboaaDoor.P
end
section
namespace Go.Proofs
open Go.Shelf
def Tryd.lays169_ren:Go.Shelf.Ren:=⟨fun|169=>16|n=>n,fun|70=>34|9=>9|0=>0|72=>36|37=>22|127=>74|3=>3|5=>5|n=>n,fun|n=>n⟩
theorem Tryd.lays169:Go.Proofs.Lays.n169 Tryd.prog Tryd.lays169_ren:={
 mixed:=by kernel_rfl
 f169:=Tryd.func16.trans (congrArg some (by kernel_rfl))
 t0:=Tryd.underlying0
 a0:=Tryd.isAgg0
 z0:=Tryd.sizeOf0
 v0:=Tryd.zeroValue0
 t3:=Tryd.underlying3
 a3:=Tryd.isAgg3
 z3:=Tryd.sizeOf3
 v3:=Tryd.zeroValue3
 t9:=Tryd.underlying9
 a9:=Tryd.isAgg9
 z9:=Tryd.sizeOf9
 v9:=Tryd.zeroValue9
 t37:=Tryd.underlying22
 a37:=Tryd.isAgg22
 z37:=Tryd.sizeOf22
 v37:=Tryd.zeroValue22
 t70:=Tryd.underlying34
 a70:=Tryd.isAgg34
 z70:=Tryd.sizeOf34
 v70:=Tryd.zeroValue34
 t72:=Tryd.underlying36
 a72:=Tryd.isAgg36
 z72:=Tryd.sizeOf36
 v72:=Tryd.zeroValue36
 t127:=Tryd.underlying74
 a127:=Tryd.isAgg74
 z127:=Tryd.sizeOf74
 v127:=Tryd.zeroValue74 }
theorem Tryd.Builder_Extra_169:Builder.Extra Tryd.prog Tryd.lays169_ren:={
 sizeBuilder:=by kernel_rfl
 liesBuilder:=by kernel_rfl
 t5:=Tryd.underlying5
 a5:=Tryd.isAgg5
 z5:=Tryd.sizeOf5
 v5:=Tryd.zeroValue5
 infoByte:=by kernel_rfl
 cellsByte:=by kernel_rfl
 sizeByte:=by kernel_rfl
 neB5:=by decide }
open Go.RowKit in
theorem Tryd.Builder_String_any_f (B b:Nat) (l:List UInt8) (w:World) (h:Lib.IsBuilderF 36 5 B b (Lib.byteCells l) w) (hBw:B≤w.heap.size) :
  Calls Tryd.prog 16 #[.pointer (some ⟨b,0,none⟩)] w fun e w'=>e=.returned (.string ⟨l.toArray⟩)∧(Lib.IsBuilderF 36 5 B b (Lib.byteCells l) w'∧Below B w w'):=Any.Builder_String_any_f Tryd.lays169 Tryd.Builder_Extra_169 B b l w h hBw
def Tryd.lays171_ren:Go.Shelf.Ren:=⟨fun|171=>82|243=>83|246=>84|283=>85|284=>86|285=>87|286=>88|129=>90|317=>89|318=>91|319=>92|320=>93|337=>94|338=>95|n=>n,fun|3=>3|9=>9|2=>2|4=>4|171=>118|0=>0|53=>119|37=>22|5=>5|173=>122|212=>125|51=>101|20=>20|213=>126|46=>95|232=>130|233=>131|n=>n,fun|17=>3|18=>4|19=>5|n=>n⟩
theorem Tryd.lays171:Go.Proofs.Lays.n171 Tryd.prog Tryd.lays171_ren:={
 mixed:=by kernel_rfl
 f129:=Tryd.func90.trans (congrArg some (by kernel_rfl))
 f171:=Tryd.func82.trans (congrArg some (by kernel_rfl))
 f243:=Tryd.func83.trans (congrArg some (by kernel_rfl))
 f246:=Tryd.func84.trans (congrArg some (by kernel_rfl))
 f283:=Tryd.func85.trans (congrArg some (by kernel_rfl))
 f284:=Tryd.func86.trans (congrArg some (by kernel_rfl))
 f285:=Tryd.func87.trans (congrArg some (by kernel_rfl))
 f286:=Tryd.func88.trans (congrArg some (by kernel_rfl))
 f317:=Tryd.func89.trans (congrArg some (by kernel_rfl))
 f318:=Tryd.func91.trans (congrArg some (by kernel_rfl))
 f319:=Tryd.func92.trans (congrArg some (by kernel_rfl))
 f320:=Tryd.func93.trans (congrArg some (by kernel_rfl))
 f337:=Tryd.func94.trans (congrArg some (by kernel_rfl))
 f338:=Tryd.func95.trans (congrArg some (by kernel_rfl))
 t0:=Tryd.underlying0
 a0:=Tryd.isAgg0
 z0:=Tryd.sizeOf0
 v0:=Tryd.zeroValue0
 t2:=Tryd.underlying2
 a2:=Tryd.isAgg2
 z2:=Tryd.sizeOf2
 v2:=Tryd.zeroValue2
 t3:=Tryd.underlying3
 a3:=Tryd.isAgg3
 z3:=Tryd.sizeOf3
 v3:=Tryd.zeroValue3
 t4:=Tryd.underlying4
 a4:=Tryd.isAgg4
 z4:=Tryd.sizeOf4
 v4:=Tryd.zeroValue4
 t5:=Tryd.underlying5
 a5:=Tryd.isAgg5
 z5:=Tryd.sizeOf5
 v5:=Tryd.zeroValue5
 t9:=Tryd.underlying9
 a9:=Tryd.isAgg9
 z9:=Tryd.sizeOf9
 v9:=Tryd.zeroValue9
 t20:=Tryd.underlying20
 a20:=Tryd.isAgg20
 z20:=Tryd.sizeOf20
 v20:=Tryd.zeroValue20
 t37:=Tryd.underlying22
 a37:=Tryd.isAgg22
 z37:=Tryd.sizeOf22
 v37:=Tryd.zeroValue22
 t46:=Tryd.underlying95
 a46:=Tryd.isAgg95
 z46:=Tryd.sizeOf95
 v46:=Tryd.zeroValue95
 t51:=Tryd.underlying101
 a51:=Tryd.isAgg101
 z51:=Tryd.sizeOf101
 v51:=Tryd.zeroValue101
 t53:=Tryd.underlying119
 a53:=Tryd.isAgg119
 z53:=Tryd.sizeOf119
 v53:=Tryd.zeroValue119
 t171:=Tryd.underlying118
 a171:=Tryd.isAgg118
 z171:=Tryd.sizeOf118
 v171:=Tryd.zeroValue118
 t173:=Tryd.underlying122
 a173:=Tryd.isAgg122
 z173:=Tryd.sizeOf122
 v173:=Tryd.zeroValue122
 t212:=Tryd.underlying125
 a212:=Tryd.isAgg125
 z212:=Tryd.sizeOf125
 v212:=Tryd.zeroValue125
 t213:=Tryd.underlying126
 a213:=Tryd.isAgg126
 z213:=Tryd.sizeOf126
 t232:=Tryd.underlying130
 a232:=Tryd.isAgg130
 z232:=Tryd.sizeOf130
 v232:=Tryd.zeroValue130
 t233:=Tryd.underlying131
 a233:=Tryd.isAgg131
 z233:=Tryd.sizeOf131
 v233:=Tryd.zeroValue131
 g17:=by kernel_rfl
 g18:=by kernel_rfl
 g19:=by kernel_rfl }
open Go.RowKit Go.Sort Go.Lib in
theorem Tryd.strconv_Itoa_small (i:Nat) (hi:i < 100) (w:World) :
  Calls Tryd.prog 82 #[.int .i64 i] w fun e w'=>e=.returned (.string ⟨(Lib.decDigits i).toArray⟩)∧w'=w:=Any.strconv_Itoa_small Tryd.lays171 i hi w
def Tryd.lays219_ren:Go.Shelf.Ren:=⟨fun|219=>51|217=>56|225=>57|224=>58|267=>59|266=>61|314=>62|n=>n,fun|9=>9|3=>3|4=>4|5=>5|46=>95|146=>102|51=>101|n=>n,fun|1=>0|n=>n⟩
theorem Tryd.lays219:Go.Proofs.Lays.n219 Tryd.prog Tryd.lays219_ren:={
 mixed:=by kernel_rfl
 f217:=Tryd.func56.trans (congrArg some (by kernel_rfl))
 f219:=Tryd.func51.trans (congrArg some (by kernel_rfl))
 f224:=Tryd.func58.trans (congrArg some (by kernel_rfl))
 f225:=Tryd.func57.trans (congrArg some (by kernel_rfl))
 f266:=Tryd.func61.trans (congrArg some (by kernel_rfl))
 f267:=Tryd.func59.trans (congrArg some (by kernel_rfl))
 f314:=Tryd.func62.trans (congrArg some (by kernel_rfl))
 t3:=Tryd.underlying3
 a3:=Tryd.isAgg3
 z3:=Tryd.sizeOf3
 v3:=Tryd.zeroValue3
 t4:=Tryd.underlying4
 a4:=Tryd.isAgg4
 z4:=Tryd.sizeOf4
 v4:=Tryd.zeroValue4
 t5:=Tryd.underlying5
 a5:=Tryd.isAgg5
 z5:=Tryd.sizeOf5
 v5:=Tryd.zeroValue5
 t9:=Tryd.underlying9
 a9:=Tryd.isAgg9
 z9:=Tryd.sizeOf9
 v9:=Tryd.zeroValue9
 t46:=Tryd.underlying95
 a46:=Tryd.isAgg95
 z46:=Tryd.sizeOf95
 v46:=Tryd.zeroValue95
 t51:=Tryd.underlying101
 a51:=Tryd.isAgg101
 z51:=Tryd.sizeOf101
 v51:=Tryd.zeroValue101
 t146:=Tryd.underlying102
 a146:=Tryd.isAgg102
 z146:=Tryd.sizeOf102
 v146:=Tryd.zeroValue102
 g1:=by kernel_rfl }
open Go.RowKit Go.Lib in
theorem Tryd.stringslite_Index_one (s:ByteArray) (c:UInt8) (w:World) :
  Calls Tryd.prog 51 #[.string s,.string ⟨#[c]⟩] w fun e w'=>e=.returned (.int .i64 (Lib.indexByte s.data.toList c))∧w'=w:=Any.stringslite_Index_one Tryd.lays219 s c w
open Go.RowKit Go.Lib in
theorem Tryd.stringslite_Index (s sub:ByteArray) (m:Int) (w:World) (hs:s.size < 4294967281) (hm:w.cell? ⟨0,0,none⟩=some (.int .i64 m)) :
  Calls Tryd.prog 51 #[.string s,.string sub] w fun e w'=>e=.returned (.int .i64 (Lib.index s.data.toList sub.data.toList))∧w'=w:=Any.stringslite_Index Tryd.lays219 s sub m w hs hm
def Tryd.lays143_ren:Go.Shelf.Ren:=⟨fun|143=>43|219=>51|217=>56|225=>57|224=>58|267=>59|266=>61|314=>62|n=>n,fun|9=>9|3=>3|4=>4|5=>5|46=>95|146=>102|51=>101|n=>n,fun|1=>0|n=>n⟩
theorem Tryd.lays143:Go.Proofs.Lays.n143 Tryd.prog Tryd.lays143_ren:={
 mixed:=by kernel_rfl
 f143:=Tryd.func43.trans (congrArg some (by kernel_rfl))
 f217:=Tryd.func56.trans (congrArg some (by kernel_rfl))
 f219:=Tryd.func51.trans (congrArg some (by kernel_rfl))
 f224:=Tryd.func58.trans (congrArg some (by kernel_rfl))
 f225:=Tryd.func57.trans (congrArg some (by kernel_rfl))
 f266:=Tryd.func61.trans (congrArg some (by kernel_rfl))
 f267:=Tryd.func59.trans (congrArg some (by kernel_rfl))
 f314:=Tryd.func62.trans (congrArg some (by kernel_rfl))
 t3:=Tryd.underlying3
 a3:=Tryd.isAgg3
 z3:=Tryd.sizeOf3
 v3:=Tryd.zeroValue3
 t4:=Tryd.underlying4
 a4:=Tryd.isAgg4
 z4:=Tryd.sizeOf4
 v4:=Tryd.zeroValue4
 t5:=Tryd.underlying5
 a5:=Tryd.isAgg5
 z5:=Tryd.sizeOf5
 v5:=Tryd.zeroValue5
 t9:=Tryd.underlying9
 a9:=Tryd.isAgg9
 z9:=Tryd.sizeOf9
 v9:=Tryd.zeroValue9
 t46:=Tryd.underlying95
 a46:=Tryd.isAgg95
 z46:=Tryd.sizeOf95
 v46:=Tryd.zeroValue95
 t51:=Tryd.underlying101
 a51:=Tryd.isAgg101
 z51:=Tryd.sizeOf101
 v51:=Tryd.zeroValue101
 t146:=Tryd.underlying102
 a146:=Tryd.isAgg102
 z146:=Tryd.sizeOf102
 v146:=Tryd.zeroValue102
 g1:=by kernel_rfl }
open Go.RowKit Go.Lib in
theorem Tryd.strings_Index (s sub:ByteArray) (m:Int) (w:World) (hs:s.size < 4294967281) (hm:w.cell? ⟨0,0,none⟩=some (.int .i64 m)) :
  Calls Tryd.prog 43 #[.string s,.string sub] w fun e w'=>e=.returned (.int .i64 (Lib.index s.data.toList sub.data.toList))∧w'=w:=Any.strings_Index Tryd.lays143 s sub m w hs hm
def Tryd.lays220_ren:Go.Shelf.Ren:=⟨fun|220=>44|219=>51|217=>56|225=>57|224=>58|267=>59|266=>61|314=>62|n=>n,fun|9=>9|4=>4|3=>3|5=>5|46=>95|146=>102|51=>101|n=>n,fun|1=>0|n=>n⟩
theorem Tryd.lays220:Go.Proofs.Lays.n220 Tryd.prog Tryd.lays220_ren:={
 mixed:=by kernel_rfl
 f217:=Tryd.func56.trans (congrArg some (by kernel_rfl))
 f219:=Tryd.func51.trans (congrArg some (by kernel_rfl))
 f220:=Tryd.func44.trans (congrArg some (by kernel_rfl))
 f224:=Tryd.func58.trans (congrArg some (by kernel_rfl))
 f225:=Tryd.func57.trans (congrArg some (by kernel_rfl))
 f266:=Tryd.func61.trans (congrArg some (by kernel_rfl))
 f267:=Tryd.func59.trans (congrArg some (by kernel_rfl))
 f314:=Tryd.func62.trans (congrArg some (by kernel_rfl))
 t3:=Tryd.underlying3
 a3:=Tryd.isAgg3
 z3:=Tryd.sizeOf3
 v3:=Tryd.zeroValue3
 t4:=Tryd.underlying4
 a4:=Tryd.isAgg4
 z4:=Tryd.sizeOf4
 v4:=Tryd.zeroValue4
 t5:=Tryd.underlying5
 a5:=Tryd.isAgg5
 z5:=Tryd.sizeOf5
 v5:=Tryd.zeroValue5
 t9:=Tryd.underlying9
 a9:=Tryd.isAgg9
 z9:=Tryd.sizeOf9
 v9:=Tryd.zeroValue9
 t46:=Tryd.underlying95
 a46:=Tryd.isAgg95
 z46:=Tryd.sizeOf95
 v46:=Tryd.zeroValue95
 t51:=Tryd.underlying101
 a51:=Tryd.isAgg101
 z51:=Tryd.sizeOf101
 v51:=Tryd.zeroValue101
 t146:=Tryd.underlying102
 a146:=Tryd.isAgg102
 z146:=Tryd.sizeOf102
 v146:=Tryd.zeroValue102
 g1:=by kernel_rfl }
open Go.RowKit Go.Lib in
theorem Tryd.stringslite_Cut (s sep:ByteArray) (m:Int) (w:World) (hs:s.size < 4294967281) (hm:w.cell? ⟨0,0,none⟩=some (.int .i64 m)) :
  Calls Tryd.prog 44 #[.string s,.string sep] w fun e w'=>e=.returned (.tuple #[.string ⟨(Lib.cut s.data.toList sep.data.toList).1.toArray⟩,.string ⟨(Lib.cut s.data.toList sep.data.toList).2.1.toArray⟩,.bool (Lib.cut s.data.toList sep.data.toList).2.2])∧∃ n,w'=w.drewN n:=Any.stringslite_Cut Tryd.lays220 s sep m w hs hm
def Tryd.lays145_ren:Go.Shelf.Ren:=⟨fun|145=>34|220=>44|219=>51|217=>56|225=>57|224=>58|267=>59|266=>61|314=>62|n=>n,fun|9=>9|4=>4|59=>79|3=>3|5=>5|46=>95|146=>102|51=>101|n=>n,fun|1=>0|n=>n⟩
theorem Tryd.lays145:Go.Proofs.Lays.n145 Tryd.prog Tryd.lays145_ren:={
 mixed:=by kernel_rfl
 f145:=Tryd.func34.trans (congrArg some (by kernel_rfl))
 f217:=Tryd.func56.trans (congrArg some (by kernel_rfl))
 f219:=Tryd.func51.trans (congrArg some (by kernel_rfl))
 f220:=Tryd.func44.trans (congrArg some (by kernel_rfl))
 f224:=Tryd.func58.trans (congrArg some (by kernel_rfl))
 f225:=Tryd.func57.trans (congrArg some (by kernel_rfl))
 f266:=Tryd.func61.trans (congrArg some (by kernel_rfl))
 f267:=Tryd.func59.trans (congrArg some (by kernel_rfl))
 f314:=Tryd.func62.trans (congrArg some (by kernel_rfl))
 t3:=Tryd.underlying3
 a3:=Tryd.isAgg3
 z3:=Tryd.sizeOf3
 v3:=Tryd.zeroValue3
 t4:=Tryd.underlying4
 a4:=Tryd.isAgg4
 z4:=Tryd.sizeOf4
 v4:=Tryd.zeroValue4
 t5:=Tryd.underlying5
 a5:=Tryd.isAgg5
 z5:=Tryd.sizeOf5
 v5:=Tryd.zeroValue5
 t9:=Tryd.underlying9
 a9:=Tryd.isAgg9
 z9:=Tryd.sizeOf9
 v9:=Tryd.zeroValue9
 t46:=Tryd.underlying95
 a46:=Tryd.isAgg95
 z46:=Tryd.sizeOf95
 v46:=Tryd.zeroValue95
 t51:=Tryd.underlying101
 a51:=Tryd.isAgg101
 z51:=Tryd.sizeOf101
 v51:=Tryd.zeroValue101
 t59:=Tryd.underlying79
 a59:=Tryd.isAgg79
 z59:=Tryd.sizeOf79
 v59:=Tryd.zeroValue79
 t146:=Tryd.underlying102
 a146:=Tryd.isAgg102
 z146:=Tryd.sizeOf102
 v146:=Tryd.zeroValue102
 g1:=by kernel_rfl }
open Go.RowKit Go.Lib in
theorem Tryd.strings_Cut (s sep:ByteArray) (m:Int) (w:World) (hs:s.size < 4294967281) (hm:w.cell? ⟨0,0,none⟩=some (.int .i64 m)) :
  Calls Tryd.prog 34 #[.string s,.string sep] w fun e w'=>e=.returned (.tuple #[.string ⟨(Lib.cut s.data.toList sep.data.toList).1.toArray⟩,.string ⟨(Lib.cut s.data.toList sep.data.toList).2.1.toArray⟩,.bool (Lib.cut s.data.toList sep.data.toList).2.2])∧∃ n,w'=w.drewN n:=Any.strings_Cut Tryd.lays145 s sep m w hs hm
def Tryd.lays138_ren:Go.Shelf.Ren:=⟨fun|138=>42|195=>48|218=>50|143=>43|219=>51|217=>56|225=>57|224=>58|267=>59|266=>61|314=>62|n=>n,fun|9=>9|3=>3|4=>4|5=>5|0=>0|46=>95|146=>102|51=>101|n=>n,fun|1=>0|n=>n⟩
theorem Tryd.lays138:Go.Proofs.Lays.n138 Tryd.prog Tryd.lays138_ren:={
 mixed:=by kernel_rfl
 f138:=Tryd.func42.trans (congrArg some (by kernel_rfl))
 f143:=Tryd.func43.trans (congrArg some (by kernel_rfl))
 f195:=Tryd.func48.trans (congrArg some (by kernel_rfl))
 f217:=Tryd.func56.trans (congrArg some (by kernel_rfl))
 f218:=Tryd.func50.trans (congrArg some (by kernel_rfl))
 f219:=Tryd.func51.trans (congrArg some (by kernel_rfl))
 f224:=Tryd.func58.trans (congrArg some (by kernel_rfl))
 f225:=Tryd.func57.trans (congrArg some (by kernel_rfl))
 f266:=Tryd.func61.trans (congrArg some (by kernel_rfl))
 f267:=Tryd.func59.trans (congrArg some (by kernel_rfl))
 f314:=Tryd.func62.trans (congrArg some (by kernel_rfl))
 t0:=Tryd.underlying0
 a0:=Tryd.isAgg0
 z0:=Tryd.sizeOf0
 v0:=Tryd.zeroValue0
 t3:=Tryd.underlying3
 a3:=Tryd.isAgg3
 z3:=Tryd.sizeOf3
 v3:=Tryd.zeroValue3
 t4:=Tryd.underlying4
 a4:=Tryd.isAgg4
 z4:=Tryd.sizeOf4
 v4:=Tryd.zeroValue4
 t5:=Tryd.underlying5
 a5:=Tryd.isAgg5
 z5:=Tryd.sizeOf5
 v5:=Tryd.zeroValue5
 t9:=Tryd.underlying9
 a9:=Tryd.isAgg9
 z9:=Tryd.sizeOf9
 v9:=Tryd.zeroValue9
 t46:=Tryd.underlying95
 a46:=Tryd.isAgg95
 z46:=Tryd.sizeOf95
 v46:=Tryd.zeroValue95
 t51:=Tryd.underlying101
 a51:=Tryd.isAgg101
 z51:=Tryd.sizeOf101
 v51:=Tryd.zeroValue101
 t146:=Tryd.underlying102
 a146:=Tryd.isAgg102
 z146:=Tryd.sizeOf102
 v146:=Tryd.zeroValue102
 g1:=by kernel_rfl }
open Go.RowKit Go.Lib in
theorem Tryd.strings_Count_one (s:ByteArray) (c:UInt8) (w:World) :
  Calls Tryd.prog 42 #[.string s,.string ⟨#[c]⟩] w fun e w'=>e=.returned (.int .i64 (Lib.countByte s.data.toList c))∧w'=w:=Any.strings_Count_one Tryd.lays138 s c w
open Go.RowKit Go.Lib in
theorem Tryd.strings_Count (s sub:ByteArray) (m:Int) (w:World) (hs:s.size < 4294967281) (hm:w.cell? ⟨0,0,none⟩=some (.int .i64 m)) (h2:2≤sub.size) :
  Calls Tryd.prog 42 #[.string s,.string sub] w fun e w'=>e=.returned (.int .i64 (Lib.countB s sub))∧w'=w:=Any.strings_Count Tryd.lays138 s sub m w hs hm h2
def Tryd.lays207_ren:Go.Shelf.Ren:=⟨fun|207=>60|n=>n,fun|9=>9|4=>4|3=>3|n=>n,fun|n=>n⟩
theorem Tryd.lays207:Go.Proofs.Lays.n207 Tryd.prog Tryd.lays207_ren:={
 mixed:=by kernel_rfl
 f207:=Tryd.func60.trans (congrArg some (by kernel_rfl))
 t3:=Tryd.underlying3
 a3:=Tryd.isAgg3
 z3:=Tryd.sizeOf3
 v3:=Tryd.zeroValue3
 t4:=Tryd.underlying4
 a4:=Tryd.isAgg4
 z4:=Tryd.sizeOf4
 v4:=Tryd.zeroValue4
 t9:=Tryd.underlying9
 a9:=Tryd.isAgg9
 z9:=Tryd.sizeOf9
 v9:=Tryd.zeroValue9 }
open Go.RowKit Go.Lib in
theorem Tryd.stringslite_HasSuffix (s p:ByteArray) (w:World) (hs:s.size≤9223372036854775807) :
  Calls Tryd.prog 60 #[.string s,.string p] w fun e w'=>e=.returned (.bool (Lib.hasSuffix s.data.toList p.data.toList))∧w'=w:=Any.stringslite_HasSuffix Tryd.lays207 s p w hs
def Tryd.lays209_ren:Go.Shelf.Ren:=⟨fun|209=>53|207=>60|n=>n,fun|9=>9|4=>4|3=>3|n=>n,fun|n=>n⟩
theorem Tryd.lays209:Go.Proofs.Lays.n209 Tryd.prog Tryd.lays209_ren:={
 mixed:=by kernel_rfl
 f207:=Tryd.func60.trans (congrArg some (by kernel_rfl))
 f209:=Tryd.func53.trans (congrArg some (by kernel_rfl))
 t3:=Tryd.underlying3
 a3:=Tryd.isAgg3
 z3:=Tryd.sizeOf3
 v3:=Tryd.zeroValue3
 t4:=Tryd.underlying4
 a4:=Tryd.isAgg4
 z4:=Tryd.sizeOf4
 v4:=Tryd.zeroValue4
 t9:=Tryd.underlying9
 a9:=Tryd.isAgg9
 z9:=Tryd.sizeOf9
 v9:=Tryd.zeroValue9 }
open Go.RowKit Go.Lib in
theorem Tryd.stringslite_TrimSuffix (s p:ByteArray) (w:World) (hs:s.size≤9223372036854775807) :
  Calls Tryd.prog 53 #[.string s,.string p] w fun e w'=>e=.returned (.string ⟨(Lib.trimSuffix s.data.toList p.data.toList).toArray⟩)∧w'=w:=Any.stringslite_TrimSuffix Tryd.lays209 s p w hs
def Tryd.lays102_ren:Go.Shelf.Ren:=⟨fun|102=>46|209=>53|207=>60|n=>n,fun|9=>9|4=>4|3=>3|n=>n,fun|n=>n⟩
theorem Tryd.lays102:Go.Proofs.Lays.n102 Tryd.prog Tryd.lays102_ren:={
 mixed:=by kernel_rfl
 f102:=Tryd.func46.trans (congrArg some (by kernel_rfl))
 f207:=Tryd.func60.trans (congrArg some (by kernel_rfl))
 f209:=Tryd.func53.trans (congrArg some (by kernel_rfl))
 t3:=Tryd.underlying3
 a3:=Tryd.isAgg3
 z3:=Tryd.sizeOf3
 v3:=Tryd.zeroValue3
 t4:=Tryd.underlying4
 a4:=Tryd.isAgg4
 z4:=Tryd.sizeOf4
 v4:=Tryd.zeroValue4
 t9:=Tryd.underlying9
 a9:=Tryd.isAgg9
 z9:=Tryd.sizeOf9
 v9:=Tryd.zeroValue9 }
open Go.RowKit Go.Lib in
theorem Tryd.strings_TrimSuffix (s p:ByteArray) (w:World) (hs:s.size≤9223372036854775807) :
  Calls Tryd.prog 46 #[.string s,.string p] w fun e w'=>e=.returned (.string ⟨(Lib.trimSuffix s.data.toList p.data.toList).toArray⟩)∧w'=w:=Any.strings_TrimSuffix Tryd.lays102 s p w hs
def Tryd.lays221_ren:Go.Shelf.Ren:=⟨fun|221=>33|268=>41|138=>42|143=>43|195=>48|197=>49|218=>50|219=>51|260=>55|217=>56|225=>57|224=>58|267=>59|266=>61|314=>62|n=>n,fun|9=>9|3=>3|31=>37|4=>4|0=>0|105=>92|21=>21|5=>5|46=>95|119=>97|139=>100|138=>99|146=>102|51=>101|n=>n,fun|1=>0|3=>1|4=>2|n=>n⟩
theorem Tryd.lays221:Go.Proofs.Lays.n221 Tryd.prog Tryd.lays221_ren:={
 mixed:=by kernel_rfl
 f138:=Tryd.func42.trans (congrArg some (by kernel_rfl))
 f143:=Tryd.func43.trans (congrArg some (by kernel_rfl))
 f195:=Tryd.func48.trans (congrArg some (by kernel_rfl))
 f197:=Tryd.func49.trans (congrArg some (by kernel_rfl))
 f217:=Tryd.func56.trans (congrArg some (by kernel_rfl))
 f218:=Tryd.func50.trans (congrArg some (by kernel_rfl))
 f219:=Tryd.func51.trans (congrArg some (by kernel_rfl))
 f221:=Tryd.func33.trans (congrArg some (by kernel_rfl))
 f224:=Tryd.func58.trans (congrArg some (by kernel_rfl))
 f225:=Tryd.func57.trans (congrArg some (by kernel_rfl))
 f260:=Tryd.func55.trans (congrArg some (by kernel_rfl))
 f266:=Tryd.func61.trans (congrArg some (by kernel_rfl))
 f267:=Tryd.func59.trans (congrArg some (by kernel_rfl))
 f268:=Tryd.func41.trans (congrArg some (by kernel_rfl))
 f314:=Tryd.func62.trans (congrArg some (by kernel_rfl))
 t0:=Tryd.underlying0
 a0:=Tryd.isAgg0
 z0:=Tryd.sizeOf0
 v0:=Tryd.zeroValue0
 t3:=Tryd.underlying3
 a3:=Tryd.isAgg3
 z3:=Tryd.sizeOf3
 v3:=Tryd.zeroValue3
 t4:=Tryd.underlying4
 a4:=Tryd.isAgg4
 z4:=Tryd.sizeOf4
 v4:=Tryd.zeroValue4
 t5:=Tryd.underlying5
 a5:=Tryd.isAgg5
 z5:=Tryd.sizeOf5
 v5:=Tryd.zeroValue5
 t9:=Tryd.underlying9
 a9:=Tryd.isAgg9
 z9:=Tryd.sizeOf9
 v9:=Tryd.zeroValue9
 t21:=Tryd.underlying21
 a21:=Tryd.isAgg21
 z21:=Tryd.sizeOf21
 v21:=Tryd.zeroValue21
 t31:=Tryd.underlying37
 a31:=Tryd.isAgg37
 z31:=Tryd.sizeOf37
 v31:=Tryd.zeroValue37
 t46:=Tryd.underlying95
 a46:=Tryd.isAgg95
 z46:=Tryd.sizeOf95
 v46:=Tryd.zeroValue95
 t51:=Tryd.underlying101
 a51:=Tryd.isAgg101
 z51:=Tryd.sizeOf101
 v51:=Tryd.zeroValue101
 t105:=Tryd.underlying92
 a105:=Tryd.isAgg92
 z105:=Tryd.sizeOf92
 v105:=Tryd.zeroValue92
 t119:=Tryd.underlying97
 a119:=Tryd.isAgg97
 z119:=Tryd.sizeOf97
 t138:=Tryd.underlying99
 a138:=Tryd.isAgg99
 z138:=Tryd.sizeOf99
 v138:=Tryd.zeroValue99
 t139:=Tryd.underlying100
 a139:=Tryd.isAgg100
 z139:=Tryd.sizeOf100
 v139:=Tryd.zeroValue100
 t146:=Tryd.underlying102
 a146:=Tryd.isAgg102
 z146:=Tryd.sizeOf102
 v146:=Tryd.zeroValue102
 g1:=by kernel_rfl
 g3:=by kernel_rfl
 g4:=by kernel_rfl }
open Go.RowKit Go.Lib in
theorem Tryd.strings_genSplit (s sep:ByteArray) (sv:Nat) (n:Int) (N:Nat) (m:Int) (w:World) (hs:s.size < 4294967281) (hm:w.cell? ⟨0,0,none⟩=some (.int .i64 m)) (h1:1≤sep.size) (hsv:sv≤sep.size) (hn0:n≠0) (hn63:n≤9223372036854775807) (hN:(N:Int)=min (if n < 0 then (Lib.countB s sep:Int)+1 else n) ((s.size:Int)+1)) :
  Calls Tryd.prog 33 #[.string s,.string sep,.int .i64 sv,.int .i64 n] w fun e w'=>
   e=.returned (.slice (some ⟨w.heap.size,0,none⟩) (Lib.splitB sep sv (N - 1) s).length N)∧w'=w.alloc (.cells (Lib.cellsOf (Lib.splitB sep sv (N - 1) s) N) 9):=Any.strings_genSplit Tryd.lays221 (by kernel_rfl) s sep sv n N m w hs hm h1 hsv hn0 hn63 hN
def Tryd.lays146_ren:Go.Shelf.Ren:=⟨fun|146=>22|221=>33|268=>41|138=>42|143=>43|195=>48|197=>49|218=>50|219=>51|260=>55|217=>56|225=>57|224=>58|267=>59|266=>61|314=>62|n=>n,fun|9=>9|31=>37|3=>3|4=>4|0=>0|105=>92|21=>21|5=>5|46=>95|119=>97|139=>100|138=>99|146=>102|51=>101|n=>n,fun|1=>0|3=>1|4=>2|n=>n⟩
theorem Tryd.lays146:Go.Proofs.Lays.n146 Tryd.prog Tryd.lays146_ren:={
 mixed:=by kernel_rfl
 f138:=Tryd.func42.trans (congrArg some (by kernel_rfl))
 f143:=Tryd.func43.trans (congrArg some (by kernel_rfl))
 f146:=Tryd.func22.trans (congrArg some (by kernel_rfl))
 f195:=Tryd.func48.trans (congrArg some (by kernel_rfl))
 f197:=Tryd.func49.trans (congrArg some (by kernel_rfl))
 f217:=Tryd.func56.trans (congrArg some (by kernel_rfl))
 f218:=Tryd.func50.trans (congrArg some (by kernel_rfl))
 f219:=Tryd.func51.trans (congrArg some (by kernel_rfl))
 f221:=Tryd.func33.trans (congrArg some (by kernel_rfl))
 f224:=Tryd.func58.trans (congrArg some (by kernel_rfl))
 f225:=Tryd.func57.trans (congrArg some (by kernel_rfl))
 f260:=Tryd.func55.trans (congrArg some (by kernel_rfl))
 f266:=Tryd.func61.trans (congrArg some (by kernel_rfl))
 f267:=Tryd.func59.trans (congrArg some (by kernel_rfl))
 f268:=Tryd.func41.trans (congrArg some (by kernel_rfl))
 f314:=Tryd.func62.trans (congrArg some (by kernel_rfl))
 t0:=Tryd.underlying0
 a0:=Tryd.isAgg0
 z0:=Tryd.sizeOf0
 v0:=Tryd.zeroValue0
 t3:=Tryd.underlying3
 a3:=Tryd.isAgg3
 z3:=Tryd.sizeOf3
 v3:=Tryd.zeroValue3
 t4:=Tryd.underlying4
 a4:=Tryd.isAgg4
 z4:=Tryd.sizeOf4
 v4:=Tryd.zeroValue4
 t5:=Tryd.underlying5
 a5:=Tryd.isAgg5
 z5:=Tryd.sizeOf5
 v5:=Tryd.zeroValue5
 t9:=Tryd.underlying9
 a9:=Tryd.isAgg9
 z9:=Tryd.sizeOf9
 v9:=Tryd.zeroValue9
 t21:=Tryd.underlying21
 a21:=Tryd.isAgg21
 z21:=Tryd.sizeOf21
 v21:=Tryd.zeroValue21
 t31:=Tryd.underlying37
 a31:=Tryd.isAgg37
 z31:=Tryd.sizeOf37
 v31:=Tryd.zeroValue37
 t46:=Tryd.underlying95
 a46:=Tryd.isAgg95
 z46:=Tryd.sizeOf95
 v46:=Tryd.zeroValue95
 t51:=Tryd.underlying101
 a51:=Tryd.isAgg101
 z51:=Tryd.sizeOf101
 v51:=Tryd.zeroValue101
 t105:=Tryd.underlying92
 a105:=Tryd.isAgg92
 z105:=Tryd.sizeOf92
 v105:=Tryd.zeroValue92
 t119:=Tryd.underlying97
 a119:=Tryd.isAgg97
 z119:=Tryd.sizeOf97
 t138:=Tryd.underlying99
 a138:=Tryd.isAgg99
 z138:=Tryd.sizeOf99
 v138:=Tryd.zeroValue99
 t139:=Tryd.underlying100
 a139:=Tryd.isAgg100
 z139:=Tryd.sizeOf100
 v139:=Tryd.zeroValue100
 t146:=Tryd.underlying102
 a146:=Tryd.isAgg102
 z146:=Tryd.sizeOf102
 v146:=Tryd.zeroValue102
 g1:=by kernel_rfl
 g3:=by kernel_rfl
 g4:=by kernel_rfl }
open Go.RowKit Go.Lib in
theorem Tryd.strings_Split (s sep:ByteArray) (m:Int) (w:World) (hs:s.size < 4294967281) (hm:w.cell? ⟨0,0,none⟩=some (.int .i64 m)) (h1:1≤sep.size) :
  Calls Tryd.prog 22 #[.string s,.string sep] w fun e w'=>
   e=.returned (.slice (some ⟨w.heap.size,0,none⟩) (Lib.countB s sep+1) (Lib.countB s sep+1))∧w'=w.alloc (.cells ((Lib.splitB sep 0 (Lib.countB s sep) s).map Value.string).toArray 9):=Any.strings_Split Tryd.lays146 (by kernel_rfl) s sep m w hs hm h1
end Go.Proofs
end
section
namespace Go.Proofs.YtfpngfkepeoboaaDoor.Ln
open Go.RowKit
set_option linter.unusedVariables false
inductive NL where
 | caller (name:ByteArray)
 | rule (lets:Bool) (path:ByteArray)
 | wait (n:Int)
@[reducible] def NL.v:NL→Value
 | .caller x=>.iface 69 (.agg #[.string x])
 | .rule b x=>.iface 71 (.agg #[.bool b,.string x])
 | .wait n=>.iface 73 (.agg #[.int .i64 n])
def NL.text:NL→ByteArray
 | .caller x=>(⟨#[99,97,108,108,101,114,32]⟩:ByteArray)++x++(⟨#[10]⟩:ByteArray)
 | .rule true x=>(⟨#[108,101,116,32]⟩:ByteArray)++x++(⟨#[10]⟩:ByteArray)
 | .rule false x=>(⟨#[98,97,114,32]⟩:ByteArray)++x++(⟨#[10]⟩:ByteArray)
 | .wait n=>(⟨#[119,97,105,116,32]⟩:ByteArray)++⟨(Lib.decDigits n.toNat).toArray⟩++(⟨#[10]⟩:ByteArray)
def NL.small:NL→Prop
 | .caller x=>x.size≤1000000000
 | .rule _ x=>x.size≤1000000000
 | .wait n=>0≤n∧n < 100
set_option maxHeartbeats 1000000 in
set_option maxRecDepth 100000 in
theorem write_caller (x:ByteArray) (hx:x.size≤1000000000) (w:World) :
  Calls Tryd.prog 79 #[.agg #[.string x]] w fun e w'=>e=.returned (.string (NL.text (.caller x)))∧Below w.heap.size w w':=by
 have c1b:decide (7+x.size≤9223372036854775807)=true:=decide_eq_true (by omega)
 have c1c:(9223372036854775807 < 7+x.size)=False:=eq_false (by omega)
 have c2b:decide (7+x.size+1≤9223372036854775807)=true:=decide_eq_true (by omega)
 have c2c:(9223372036854775807 < 7+x.size+1)=False:=eq_false (by omega)
 go_enter Tryd.func79,Tryd.ntmps79
 go_wp2
 go_ret
 exact ⟨rfl,(Below.refl _ _).alloc (Nat.le_refl _) _⟩
set_option maxHeartbeats 1000000 in
set_option maxRecDepth 100000 in
theorem write_rule (b:Bool) (x:ByteArray) (hx:x.size≤1000000000) (w:World) :
  Calls Tryd.prog 80 #[.agg #[.bool b,.string x]] w fun e w'=>e=.returned (.string (NL.text (.rule b x)))∧Below w.heap.size w w':=by
 have c1b:decide (4+x.size≤9223372036854775807)=true:=decide_eq_true (by omega)
 have c1c:(9223372036854775807 < 4+x.size)=False:=eq_false (by omega)
 have c2b:decide (4+x.size+1≤9223372036854775807)=true:=decide_eq_true (by omega)
 have c2c:(9223372036854775807 < 4+x.size+1)=False:=eq_false (by omega)
 cases b
 ·go_enter Tryd.func80,Tryd.ntmps80
  go_wp2
  go_ret
  exact ⟨rfl,(Below.refl _ _).alloc (Nat.le_refl _) _⟩
 ·go_enter Tryd.func80,Tryd.ntmps80
  go_wp2
  go_ret
  exact ⟨rfl,(Below.refl _ _).alloc (Nat.le_refl _) _⟩
set_option maxHeartbeats 1000000 in
set_option maxRecDepth 100000 in
theorem write_wait (n:Int) (h0:0≤n) (h1:n < 100) (w:World) :
  Calls Tryd.prog 81 #[.agg #[.int .i64 n]] w fun e w'=>e=.returned (.string (NL.text (.wait n)))∧Below w.heap.size w w':=by
 obtain ⟨k,rfl⟩:=Int.eq_ofNat_of_zero_le h0
 have hk:k < 100:=by omega
 have hd:(⟨(Lib.decDigits k).toArray⟩:ByteArray).size≤2:=by
  show (Lib.decDigits k).toArray.size≤2
  by_cases h:k < 10
  ·rw [Lib.decDigits_one h];simp
  ·rw [Lib.decDigits_two h hk];simp
 have c1b:decide (5+(⟨(Lib.decDigits k).toArray⟩:ByteArray).size≤9223372036854775807)=true:=decide_eq_true (by omega)
 have c1c:(9223372036854775807 < 5+(⟨(Lib.decDigits k).toArray⟩:ByteArray).size)=False:=eq_false (by omega)
 have c2b:decide (5+(⟨(Lib.decDigits k).toArray⟩:ByteArray).size+1≤9223372036854775807)=true:=decide_eq_true (by omega)
 have c2c:(9223372036854775807 < 5+(⟨(Lib.decDigits k).toArray⟩:ByteArray).size+1)=False:=eq_false (by omega)
 have ht:NL.text (.wait (k:Int))=(⟨#[119,97,105,116,32]⟩:ByteArray)++⟨(Lib.decDigits k).toArray⟩++(⟨#[10]⟩:ByteArray):=rfl
 generalize hg:(⟨(Lib.decDigits k).toArray⟩:ByteArray)=g at *
 go_enter Tryd.func81,Tryd.ntmps81
 have en:∀ args w,(callFunc 82 args).run Tryd.prog w=.ok (.enter 82 args) w:=enters_of Tryd.func82 (by kernel_rfl) rfl
 go_wp2_with (go_at_fn 82;refine (Tryd.strconv_Itoa_small k hk _).mono ?_)
 rw [hg]
 rintro e w1 ⟨rfl,rfl⟩
 go_wp2
 go_ret
 exact ⟨by rw [ht];rfl,(Below.refl _ _).alloc (Nat.le_refl _) _⟩
def NL.ty:NL→TypeId
 | .caller _=>69
 | .rule _ _=>71
 | .wait _=>73
def NL.inner:NL→Value
 | .caller x=>.agg #[.string x]
 | .rule b x=>.agg #[.bool b,.string x]
 | .wait n=>.agg #[.int .i64 n]
def NL.fn:NL→FuncId
 | .caller _=>79
 | .rule _ _=>80
 | .wait _=>81
theorem NL.v_eq (l:NL):l.v=.iface l.ty l.inner:=by cases l <;> rfl
theorem write (l:NL) (hl:l.small) (w:World) :
  Calls Tryd.prog l.fn #[l.inner] w fun e w'=>e=.returned (.string l.text)∧Below w.heap.size w w':=by
 cases l with
 | caller x=>exact write_caller x hl w
 | rule b x=>exact write_rule b x hl w
 | wait n=>exact write_wait n hl.1 hl.2 w
theorem method_eq (l:NL) (n:Nat) (hn:0 < n) (w:World):(method n l.ty l.inner "loop.example/pedlar/impl.writeLine").run Tryd.prog w=.ok (l.fn,l.inner) w:=by
 cases n with
 | zero=>cases hn
 | succ n=>
  cases l with
  | caller x=>kernel_rfl
  | rule b x=>kernel_rfl
  | wait n=>kernel_rfl
theorem enters (l:NL) (args:Array Value) (w:World):(callFunc l.fn args).run Tryd.prog w=.ok (.enter l.fn args) w:=by
 cases l with
 | caller x=>exact enters_of Tryd.func79 (by kernel_rfl) rfl args w
 | rule b x=>exact enters_of Tryd.func80 (by kernel_rfl) rfl args w
 | wait n=>exact enters_of Tryd.func81 (by kernel_rfl) rfl args w
end Go.Proofs.YtfpngfkepeoboaaDoor.Ln
end
section
namespace Go.Proofs.YtfpngfkepeoboaaDoor.P
open Go.RowKit Go.Proofs.YtfpngfkepeoboaaDoorW.PrintWords
theorem nl_one (x:Ln.NL):x.v.oneCell'=true:=by cases x <;> rfl
def Kd.nl:Kd Ln.NL:=Kd.scalar Ln.NL.v nl_one
end Go.Proofs.YtfpngfkepeoboaaDoor.P
end
section
namespace Go.Proofs.YtfpngfkepeoboaaDoor.P
open Go.RowKit Go.Proofs.YtfpngfkepeoboaaDoorW.PrintWords Go.Proofs.YtfpngfkepeoboaaDoorW.PrintLast Go.Proofs.YtfpngfkepeoboaaDoorW.PrintMore
attribute [local go_sem] max2_int min2_int max_two min_two max_three min_three max_four min_four
set_option linter.unusedVariables false
set_option linter.unusedSimpArgs false
def errW:Option Int→Value
 | none=>.nilIface
 | some c=>.iface 0 (.int .i64 c)
theorem errW_none:errW none=.nilIface:=rfl
theorem errW_some (c:Int):errW (some c)=.iface 0 (.int .i64 c):=rfl
theorem info5:(Tryd.prog.info? 5).map (fun i=>(i.zero,i.size,i.bytes))=some (some (.int .u8 0),1,1):=by kernel_rfl
theorem info9:(Tryd.prog.info? 9).map (fun i=>(i.zero,i.size,i.bytes))=some (some (.string ⟨#[]⟩),1,16):=by kernel_rfl
theorem info40:(Tryd.prog.info? 40).map (fun i=>(i.zero,i.size,i.bytes))=some (some (.agg #[(.slice none 0 0),(.slice none 0 0),(.int .i64 0)]),3,56):=by kernel_rfl
theorem info44:(Tryd.prog.info? 44).map (fun i=>(i.zero,i.size,i.bytes))=some (some .nilIface,1,16):=by kernel_rfl
theorem info51:(Tryd.prog.info? 51).map (fun i=>(i.zero,i.size,i.bytes))=some (some (.agg #[(.bool false),(.string ⟨#[]⟩)]),2,24):=by kernel_rfl
structure S51 where
 f0:Bool
 f1:ByteArray
def z51:S51:=⟨false,(⟨#[]⟩:ByteArray)⟩
def k51:Kd S51:=Kd.iso (Kd.pair Kd.bool Kd.string) (fun x:S51=>(x.f0,x.f1))
theorem k51_open {w:World} {x:S51} {cs:List Value} (h:k51.K w x cs):cs=[.bool x.f0,.string x.f1]:=by
 obtain ⟨_,_,rfl,rfl,rfl⟩:=h
 exact rfl
theorem k51_mkM (w:World) (base:Nat) (ok:Nat→Prop) (x:S51)  : k51.M w base ok x [.bool x.f0,.string x.f1]:=⟨[.bool x.f0],[.string x.f1],rfl,rfl,rfl⟩
def rd_T51 (xs:List S51) (i:Int):S51:=xs.getD i.toNat z51
theorem at_T51 {w:World} {A:Option Addr} {n:Nat} {xs:List S51} (h:Kd.C k51 w A n xs) (i:Int) (h0:0≤i) (h1:i < n):∃ ad , A=some ad∧w.cell? (ad.add (i.toNat * 2))=some (.bool (rd_T51 xs i).f0)∧w.cell? ⟨(ad.add (i.toNat * 2)).block,(ad.add (i.toNat * 2)).off+1,none⟩=some (.string (rd_T51 xs i).f1):=by
 obtain ⟨ad,c,e,_,hK,hc0⟩:=Kd.C_get h z51 i h0 h1
 have hc:∀ j u,c[j]?=some u→w.cell? (ad.add (i.toNat * 2+j))=some u:=hc0
 obtain rfl:=k51_open hK
 exact ⟨ad,e,hc 0 _ rfl,by rw [← add_field _ _ 1 (by omega)];exact hc 1 _ rfl⟩
structure S40 where
 f0:(List ByteArray)
 f1:(List S51)
 f2:Int
def z40:S40:=⟨([]:List ByteArray),([]:List S51),(0:Int)⟩
def k40:Kd S40:=Kd.iso (Kd.pair (Kd.slice 9 Kd.string) (Kd.pair (Kd.slice 51 k51) (Kd.int .i64))) (fun x:S40=>(x.f0,x.f1,x.f2))
theorem k40_open {w:World} {x:S40} {cs:List Value} (h:k40.K w x cs):∃ A0 c0 A1 c1,cs=[.slice A0 x.f0.length c0,.slice A1 x.f1.length c1,.int .i64 x.f2]∧x.f0.length≤c0∧Kd.string.C w A0 x.f0.length x.f0∧x.f1.length≤c1∧k51.C w A1 x.f1.length x.f1:=by
 obtain ⟨_,_,rfl,⟨A0,c0,rfl,l0,g0⟩,⟨_,_,rfl,⟨A1,c1,rfl,l1,g1⟩,rfl⟩⟩:=h
 exact ⟨A0,c0,A1,c1,rfl,l0,g0,l1,g1⟩
theorem k40_openM {w:World} {base:Nat} {ok:Nat→Prop} {x:S40} {cs:List Value} (h:k40.M w base ok x cs):∃ v0 v1,cs=[v0,v1,.int .i64 x.f2]∧Kd.string.R 9 w base ok v0 x.f0∧k51.R 51 w base ok v1 x.f1:=by
 obtain ⟨_,_,rfl,⟨v0,rfl,g0⟩,⟨_,_,rfl,⟨v1,rfl,g1⟩,rfl⟩⟩:=h
 exact ⟨v0,v1,rfl,g0,g1⟩
theorem k40_mkM (w:World) (base:Nat) (ok:Nat→Prop) (x:S40) {v0:Value} (g0:Kd.string.R 9 w base ok v0 x.f0) {v1:Value} (g1:k51.R 51 w base ok v1 x.f1):k40.M w base ok x [v0,v1,.int .i64 x.f2]:=⟨[v0],[v1,.int .i64 x.f2],rfl,⟨v0,rfl,g0⟩,⟨[v1],[.int .i64 x.f2],rfl,⟨v1,rfl,g1⟩,rfl⟩⟩
def rd_T40 (xs:List S40) (i:Int):S40:=xs.getD i.toNat z40
theorem at_T40 {w:World} {A:Option Addr} {n:Nat} {xs:List S40} (h:Kd.C k40 w A n xs) (i:Int) (h0:0≤i) (h1:i < n):∃ ad A0 c0 A1 c1,A=some ad∧w.cell? (ad.add (i.toNat * 3))=some (.slice A0 (rd_T40 xs i).f0.length c0)∧w.cell? ⟨(ad.add (i.toNat * 3)).block,(ad.add (i.toNat * 3)).off+1,none⟩=some (.slice A1 (rd_T40 xs i).f1.length c1)∧w.cell? ⟨(ad.add (i.toNat * 3)).block,(ad.add (i.toNat * 3)).off+2,none⟩=some (.int .i64 (rd_T40 xs i).f2)∧(rd_T40 xs i).f0.length≤c0∧Kd.string.C w A0 (rd_T40 xs i).f0.length (rd_T40 xs i).f0∧(rd_T40 xs i).f1.length≤c1∧k51.C w A1 (rd_T40 xs i).f1.length (rd_T40 xs i).f1:=by
 obtain ⟨ad,c,e,_,hK,hc0⟩:=Kd.C_get h z40 i h0 h1
 have hc:∀ j u,c[j]?=some u→w.cell? (ad.add (i.toNat * 3+j))=some u:=hc0
 obtain ⟨A0,c0,A1,c1,rfl,l0,g0,l1,g1⟩:=k40_open hK
 exact ⟨ad,A0,c0,A1,c1,e,hc 0 _ rfl,by rw [← add_field _ _ 1 (by omega)];exact hc 1 _ rfl,by rw [← add_field _ _ 2 (by omega)];exact hc 2 _ rfl,l0,g0,l1,g1⟩
end Go.Proofs.YtfpngfkepeoboaaDoor.P
end
section
namespace Go.Proofs.YtfpngfkepeoboaaDoor.P
open Go.RowKit Go.Proofs.YtfpngfkepeoboaaDoorW.PrintWords Go.Proofs.YtfpngfkepeoboaaDoorW.PrintLast Go.Proofs.YtfpngfkepeoboaaDoorW.PrintMore
theorem viaP {B:Prop} (b:B:=by simp only [putAll,Act.put,List.setIfInBounds_toArray,List.set_cons_zero,List.set_cons_succ]):B:=b
theorem ofD {p:Prop} [Decidable p] (h:decide p=true:=by first|(with_reducible assumption)|assumption):p:=of_decide_eq_true h
theorem bindA {α β:Type} {x:Option α} {f:α→Option β} {r:β} (h:x.bind f=some r):∃ a,Aside0 (x=some a)∧f a=some r:=by
 obtain ⟨a,h1,h2⟩:=Option.bind_eq_some_iff.mp h
 exact ⟨a,⟨h1⟩,h2⟩
theorem bindY {α β:Type} {y:α} {f:α→Option β} {r:β} (h:(some y).bind f=some r):∃ z,Aside0 (z=y)∧f z=some r:=⟨y,⟨rfl⟩,h⟩
theorem bindZ {α β:Type} {y z:α} (hz:Aside0 (z=y)) {f:α→Option β} {r:β} (h:(some y).bind f=some r):f z=some r:=hz.out ▸ h
theorem toY {α:Type} (y:α):∃ z,Aside0 (z=y):=⟨y,⟨rfl⟩⟩
theorem cbl {w W:World} {a:Addr} {v:Value} (hb:Aside0 (Below w.heap.size w W)) (h:w.cell? a=some v):W.cell? a=some v:=(hb.out.cell (World.block_lt_of_cell? w _ h)).trans h
theorem geB {w W:World} {g:Nat} (hg:g=W.heap.size) (h:Below w.heap.size w W):Aside0 (w.heap.size≤g):=⟨by rw [hg];exact below_size h⟩
theorem rt {α:Type} {d:Kd α} {e:Nat} {w:World} {base:Nat} {ok:Nat→Prop} {v:Value} {xs:List α} {g t:Nat} {cells:Array Value} (a:Aside0 (d.R e w base ok v xs)) (b:Aside0 (w.heap[g]?=some (.cells cells t (0,0)))) (ht:∀ q,q ∈ e :: d.E→q≠t:=by decide):Aside0 (d.R e w base (fun k=>ok k∧k≠g) v xs):=⟨Kd.R_types a.out b.out ht⟩
section
variable {P:Program} {ops:Array Oper} {rest:List Oper} {o:Oper} {a:Act} {Q:Exit→Act→World→Prop} {md:Region.Mode} {S:World→Prop} {ds:List Nat} {W:World}
theorem boxE (N:Tmp) (cs:Array Value) (t:TypeId)
  (h:∀ g,g=W.heap.size→∀ w1,w1.heap[g]?=some (.cells cs t (0,0))→Below W.heap.size W w1→wpList P ops Q rest (a.put o.dst (.pointer (some ⟨g,0,none⟩))) w1)
  (hd:o.dst=some N:=by rfl) (hgd:o.guard=none:=by rfl)
  (hrun:(execOp a.eval o).run P W=.ok (.value (.pointer (some ⟨W.heap.size,0,none⟩))) (W.alloc (.cells cs t (0,0))):=by first|(go_simp;done)|(go_simp;rfl)):wpList P ops Q (o :: rest) a W:=box_event hgd hd hrun h
theorem boxF (N:Tmp) (cs:Array Value) (t:TypeId)
  (h:∀ g,g=W.heap.size→∀ w1,Aside0 (w1.heap[g]?=some (.cells cs t (0,0)))→Below W.heap.size W w1→wpList P ops Q rest (a.put o.dst (.pointer (some ⟨g,0,none⟩))) w1)
  (hd:o.dst=some N:=by rfl) (hgd:o.guard=none:=by rfl)
  (hrun:(execOp a.eval o).run P W=.ok (.value (.pointer (some ⟨W.heap.size,0,none⟩))) (W.alloc (.cells cs t (0,0))):=by first|(go_simp;done)|(go_simp;rfl)):wpList P ops Q (o :: rest) a W:=box_event hgd hd hrun fun g hg w1 hb=>h g hg w1 ⟨hb⟩
theorem gR (f:FuncId) (N:Option Tmp) {fn:Func} {as_:Array Operand} {ts:Array TypeId} {args:Array Value} {v:Value} {R:World→Prop} (hf:P.funcs[f]?=some fn) (hc:Calls P f args W fun e w'=>e=.returned v∧R w')
  (h:∀ w',R w'→wpList P ops Q rest (a.put N v) w')
  (hd:o.dst=N:=by rfl) (hop:o.op=.call { callee:=.value (.func f),args:=as_,argTypes:=ts }:=by rfl) (hg:o.guard=none:=by rfl) (hname:(fn.name == "runtime.NumGoroutine")=false:=by kernel_rfl) (hb:fn.body.isSome=true:=by rfl)
  (hargs:as_.map a.eval=args:=by (try simp only [List.map_toArray,List.map_cons,List.map_nil]);first|done|rfl|(simp only [List.length_drop,List.length_take];rfl)):wpList P ops Q (o :: rest) a W:=
 goesL_ N hd hg hf hname hb args hop hargs (hc.mono fun _ w' z=>⟨v,z.1,h w' z.2⟩)
theorem gV (f:FuncId) (N:Option Tmp) {fn:Func} {as_:Array Operand} {ts:Array TypeId} {args:Array Value} {β:Type} {V:β→Value} {R:β→World→Prop} (hf:P.funcs[f]?=some fn) (hc:Calls P f args W fun e w'=>∃ v,e=.returned (V v)∧R v w')
  (h:∀ v w',R v w'→wpList P ops Q rest (a.put N (V v)) w')
  (hd:o.dst=N:=by rfl) (hop:o.op=.call { callee:=.value (.func f),args:=as_,argTypes:=ts }:=by rfl) (hg:o.guard=none:=by rfl) (hname:(fn.name == "runtime.NumGoroutine")=false:=by kernel_rfl) (hb:fn.body.isSome=true:=by rfl)
  (hargs:as_.map a.eval=args:=by (try simp only [List.map_toArray,List.map_cons,List.map_nil]);first|done|rfl|(simp only [List.length_drop,List.length_take];rfl)):wpList P ops Q (o :: rest) a W:=
 goesL_ N hd hg hf hname hb args hop hargs (hc.mono fun _ w' z=>by obtain ⟨v,z1,z2⟩:=z;exact ⟨V v,z1,h v w' z2⟩)
theorem oneZ (i:Nat) (N:Option Tmp) {oi:Oper} {fuel:Nat} {l:Array Bool} (l':Array Bool)
  (h:∀ K:Act→World→Prop,Shut (∀ a' w',S w'→(S w'→wpAnyLast P md ops Q S ds fuel l' a' w')→K a' w')→if Region.wanted oi (yielded ops a.tmps)=true then Oper.wp P oi a W K Q else K (a.put N undef) W)
  (hi:ops[i]?=some oi:=by rfl) (hN:oi.dst=N:=by rfl) (hc:readyB md ops l l' i=true:=by exact one_of HT_.out (by kernel_rfl)) (hd:i ∉ ds:=by decide):wpAnyLast P md ops Q S ds (fuel+1) l a W:=one_ l' hi hN hc hd h
theorem twoZ (i j:Nat) (Ni Nj:Option Tmp) {oi oj:Oper} {fuel:Nat} {l:Array Bool} (li lj:Array Bool)
  (h1:∀ K:Act→World→Prop,Shut (∀ a' w',S w'→(S w'→wpAnyLast P md ops Q S ds fuel li a' w')→K a' w')→if Region.wanted oi (yielded ops a.tmps)=true then Oper.wp P oi a W K Q else K (a.put Ni undef) W)
  (h2:∀ K:Act→World→Prop,Shut (∀ a' w',S w'→(S w'→wpAnyLast P md ops Q S ds fuel lj a' w')→K a' w')→if Region.wanted oj (yielded ops a.tmps)=true then Oper.wp P oj a W K Q else K (a.put Nj undef) W)
  (hi:ops[i]?=some oi:=by rfl) (hj:ops[j]?=some oj:=by rfl) (hNi:oi.dst=Ni:=by rfl) (hNj:oj.dst=Nj:=by rfl)
  (hc:(Region.ready md ops l == [i,j] && l.setIfInBounds i true == li && l.setIfInBounds j true == lj)=true:=by exact two_of HT_.out (by kernel_rfl)) (hdi:i ∉ ds:=by decide) (hdj:j ∉ ds:=by decide):wpAnyLast P md ops Q S ds (fuel+1) l a W:=two_ li lj hi hj hNi hNj hc hdi hdj h1 h2
theorem nZ (N:Tmp) {fuel:Nat} {l:Array Bool} {b a':Act} {v:Value} (h:wpAnyLast P md ops Q S ds fuel l a' W) (hb:a=b.put (some N) v:=by rfl) (ha:b.put (some N) v=a':=by (simp only [Act.put,List.setIfInBounds_toArray,List.set_cons_zero,List.set_cons_succ,i64_w,i32_w];rfl)):wpAnyLast P md ops Q S ds fuel l a W:=norm_ (hb.trans ha) h
theorem pureZ (i:Nat) (N:Option Tmp) {v:Value} {fuel:Nat} {l:Array Bool} (l':Array Bool) {a':Act}
  (h:wpAnyLast P md ops Q S ds fuel l' a' W) (hi:ops[i]?=some o:=by rfl) (hN:o.dst=N:=by rfl) (hc:anyB md ops l l' i=true:=by exact any_of HT_.out (by kernel_rfl))
  (hQ:∀ c a w,Q (.panic c) (a.put o.dst v) w→Q (.panic c) a w:=by exact fun _ _ _ h=>h)
  (hy:Yields P ops o v a:=by exact Or.inl ⟨by rfl,by intro w';go_simp;with_reducible rfl⟩)
  (ha:a.put N v=a':=by (simp only [Act.put,List.setIfInBounds_toArray,List.set_cons_zero,List.set_cons_succ,i64_w,i32_w];rfl)):wpAnyLast P md ops Q S ds (fuel+1) l a W:=pure_ l' hi hN hc hQ hy ha h
theorem takeZ3 (i:Nat) (N:Option Tmp) {v:Value} {fuel:Nat} {l:Array Bool} (l':Array Bool) (hS:S W) {a':Act}
  (h:wpAnyLast P md ops Q S ds fuel l' a' W) (hi:ops[i]?=some o:=by rfl) (hN:o.dst=N:=by rfl) (hc:takeB md ops ds l l' i=true:=by exact take_ofW HT_.out HW_.out (by kernel_rfl))
  (hQ:∀ c a w,Q (.panic c) (a.put o.dst v) w→Q (.panic c) a w:=by exact fun _ _ _ h=>h)
  (hy:YieldsIf P ops S o v a:=by exact Or.inl ⟨by rfl,by rintro w' ⟨s0,s1,s2⟩;go_simp;with_reducible rfl⟩)
  (ha:a.put N v=a':=by (simp only [Act.put,List.setIfInBounds_toArray,List.set_cons_zero,List.set_cons_succ,i64_w,i32_w];rfl)):wpAnyLast P md ops Q S ds (fuel+1) l a W:=take_ l' hi hN hc hQ hy hS ha h
theorem takeZ6 (i:Nat) (N:Option Tmp) {v:Value} {fuel:Nat} {l:Array Bool} (l':Array Bool) (hS:S W) {a':Act}
  (h:wpAnyLast P md ops Q S ds fuel l' a' W) (hi:ops[i]?=some o:=by rfl) (hN:o.dst=N:=by rfl) (hc:takeB md ops ds l l' i=true:=by exact take_ofW HT_.out HW_.out (by kernel_rfl))
  (hQ:∀ c a w,Q (.panic c) (a.put o.dst v) w→Q (.panic c) a w:=by exact fun _ _ _ h=>h)
  (hy:YieldsIf P ops S o v a:=by exact Or.inl ⟨by rfl,by rintro w' ⟨s0,s1,s2,s3,s4,s5⟩;go_simp;with_reducible rfl⟩)
  (ha:a.put N v=a':=by (simp only [Act.put,List.setIfInBounds_toArray,List.set_cons_zero,List.set_cons_succ,i64_w,i32_w];rfl)):wpAnyLast P md ops Q S ds (fuel+1) l a W:=take_ l' hi hN hc hQ hy hS ha h
end
theorem cf2 {w:World} {g:Nat} {t:TypeId} {x0 x1:Value} (h:Aside0 (w.heap[g]?=some (.cells #[x0,x1] t (0,0)))):w.cell? ⟨g,0,none⟩=some x0∧w.cell? ⟨g,1,none⟩=some x1∧w.frozen? ⟨g,0,none⟩=false∧w.frozen? ⟨g,1,none⟩=false:=⟨(blk_cell h.out 0).trans rfl,(blk_cell h.out 1).trans rfl,blk_frozen h.out 0,blk_frozen h.out 1⟩
theorem cf3 {w:World} {g:Nat} {t:TypeId} {x0 x1 x2:Value} (h:Aside0 (w.heap[g]?=some (.cells #[x0,x1,x2] t (0,0)))):w.cell? ⟨g,0,none⟩=some x0∧w.cell? ⟨g,1,none⟩=some x1∧w.cell? ⟨g,2,none⟩=some x2∧w.frozen? ⟨g,0,none⟩=false∧w.frozen? ⟨g,1,none⟩=false∧w.frozen? ⟨g,2,none⟩=false:=⟨(blk_cell h.out 0).trans rfl,(blk_cell h.out 1).trans rfl,(blk_cell h.out 2).trans rfl,blk_frozen h.out 0,blk_frozen h.out 1,blk_frozen h.out 2⟩
abbrev yT:Bool:=true
abbrev yF:Bool:=false
theorem A_ {p:Prop} (h:p):Aside0 p:=⟨h⟩
abbrev bS:=@below_step
abbrev bB:=@blk_below
abbrev rB:=@Kd.R_below
abbrev gD:=@gate_dst
abbrev sI:=@Option.some.inj
abbrev dT:=@decide_eq_true
abbrev dF:=@decide_eq_false
section
variable {α:Type} {r:α} {x y:Option α} {c:Prop} {i:Decidable c}
theorem iteN (h:(if c then x else none)=some r):c∧x=some r:=by
 by_cases hc:c
 ·rw [if_pos hc] at h;exact ⟨hc,h⟩
 ·rw [if_neg hc] at h;cases h
theorem iteM (h:(if c then none else y)=some r):¬ c∧y=some r:=by
 by_cases hc:c
 ·rw [if_pos hc] at h;cases h
 ·rw [if_neg hc] at h;exact ⟨hc,h⟩
theorem iteE (h:(if c then x else y)=some r):(c∧x=some r)∨(¬ c∧y=some r):=by
 by_cases hc:c
 ·rw [if_pos hc] at h;exact .inl ⟨hc,h⟩
 ·rw [if_neg hc] at h;exact .inr ⟨hc,h⟩
theorem iteB {b:Bool} (h:(if b=true then x else y)=some r):(b=true∧x=some r)∨(b=false∧y=some r):=by cases b <;> simpa using h
theorem iteNd (h:(if c then x else none)=some r):decide c=true∧x=some r:=⟨decide_eq_true (iteN h).1,(iteN h).2⟩
theorem iteEd (h:(if c then x else y)=some r):(decide c=true∧x=some r)∨(decide c=false∧y=some r):=(iteE h).imp (fun z=>⟨decide_eq_true z.1,z.2⟩) (fun z=>⟨decide_eq_false z.1,z.2⟩)
end
section
variable {α:Type} {r:α} {x y:Option α} {a b:Int}
theorem gtT (h:a > b):decide (b < a)=true:=decide_eq_true h
theorem gtF (h:¬ a > b):decide (b < a)=false:=decide_eq_false h
theorem geT (h:a ≥ b):decide (b≤a)=true:=decide_eq_true h
theorem geF (h:¬ a ≥ b):decide (b≤a)=false:=decide_eq_false h
theorem iteEg {i:Decidable (a > b)} (h:(if a > b then x else y)=some r):(@decide (b < a) (Int.decLt b a)=true∧x=some r)∨(@decide (b < a) (Int.decLt b a)=false∧y=some r):=(iteE h).imp (fun z=>⟨gtT z.1,z.2⟩) (fun z=>⟨gtF z.1,z.2⟩)
theorem iteEe {i:Decidable (a ≥ b)} (h:(if a ≥ b then x else y)=some r):(@decide (b≤a) (Int.decLe b a)=true∧x=some r)∨(@decide (b≤a) (Int.decLe b a)=false∧y=some r):=(iteE h).imp (fun z=>⟨geT z.1,z.2⟩) (fun z=>⟨geF z.1,z.2⟩)
end
section
variable {α β:Type} [BEq β] [LawfulBEq β] {r:α} {x y:Option α} {a b:β}
theorem eqT (h:a=b):(a == b)=true∧(a != b)=false:=⟨beq_iff_eq.mpr h,bne_eq_false_iff_eq.mpr h⟩
theorem eqF (h:¬ a=b):(a == b)=false∧(a != b)=true:=⟨beq_eq_false_iff_ne.mpr h,bne_iff_ne.mpr h⟩
theorem iteEq {i:Decidable (a=b)} (h:(if a=b then x else y)=some r):((a == b)=true∧(a != b)=false∧x=some r)∨((a == b)=false∧(a != b)=true∧¬ a=b∧y=some r):=
 (iteE h).imp (fun z=>⟨(eqT z.1).1,(eqT z.1).2,z.2⟩) (fun z=>⟨(eqF z.1).1,(eqF z.1).2,z.1,z.2⟩)
end
theorem atB {P Q R:Prop} [Decidable P] [Decidable Q] (f:P→Q→R) (p:decide P=true:=by first|(with_reducible assumption)|assumption) (q:decide Q=true:=by first|(with_reducible assumption)|assumption):R∧(P=True)∧(Q=True):=
 ⟨f (of_decide_eq_true p) (of_decide_eq_true q),eq_true (of_decide_eq_true p),eq_true (of_decide_eq_true q)⟩
section
variable {P:Program} {f:FuncId} {args:Array Value} {w:World} {S:Value→World→Prop}
end
section
variable {w W:World} {a b c d:Addr} {s t u v:Value} (hb:Aside0 (Below w.heap.size w W)) (h1:w.cell? a=some s) (h2:w.cell? b=some t) (h3:w.cell? c=some u) (h4:w.cell? d=some v)
include hb h1 h2
theorem cb2:W.cell? a=some s∧W.cell? b=some t:=⟨cbl hb h1,cbl hb h2⟩
include h3
theorem cb3:W.cell? a=some s∧W.cell? b=some t∧W.cell? c=some u:=⟨cbl hb h1,cbl hb h2,cbl hb h3⟩
include h4
end
theorem zz2 {B:Prop} (f:B:=by first|rfl|(simp only [i64_w,i32_w];done)|(simp only [aid_isEmpty,aid_isEmpty2];done)|(simp;done)|(simp [*];done)):B:=f
theorem zz3 {B:Prop} (f:B:=by first|omega|exact Nat.le_refl _):B:=f
theorem zz4 {B A0:Prop} (a0:Aside0 A0) (f:A0→B:=by intro g0_;repeat (first|(with_reducible first|exact g0_|apply IsS66.alloc|apply IsS66.drewN|apply IsS66.drew|apply IsS66.set_1)|exact g0_)):B:=f a0.out
theorem zz5 {B A0:Prop} (a0:Aside0 A0) (f:A0→B:=by intro g0_;repeat (first|(with_reducible first|exact g0_|apply KeepBut.set_|apply keep_drewN|apply keep_drew|apply keep_alloc)|exact g0_)):B:=f a0.out
theorem zz6 {B A0 A1:Prop} (a0:Aside0 A0) (a1:Aside0 A1) (f:A0→A1→B:=by intro g0_ g1_;repeat (first|(with_reducible first|exact g0_|apply below_alloc|apply pw_below_drewN|apply below_drew1|refine below_set ?_ (IsS66.ge g1_))|exact g0_)):B:=f a0.out a1.out
theorem zz8 {B:Prop} (f:B:=by first|rfl|(simp [errW_none,errW_some] <;> rfl)|(simp [*,errW_none,errW_some] <;> rfl)):B:=f
theorem zz9 {B:Prop} (f:B:=by first|rfl|(simp [errW_none,errW_some] <;> rfl)|(simp only [← hji9];first|rfl|(simp [errW_none,errW_some] <;> rfl))|(simp [*,errW_none,errW_some] <;> rfl)):B:=f
theorem zz12 {B A0:Prop} (a0:Aside0 A0) (f:A0→B:=by intro g0_;repeat (first|(with_reducible first|exact g0_|apply below_alloc|apply pw_below_drewN|apply below_drew1)|exact g0_)):B:=f a0.out
theorem zz13 {B:Prop} (f:B:=by first|(go_simp;done)|(go_simp;rfl)):B:=f
theorem zz14 {B:Prop} (f:B:=by (try simp only [List.map_toArray,List.map_cons,List.map_nil]);first|done|rfl|(simp only [List.length_drop,List.length_take];rfl)):B:=f
theorem zz15 {B A0:Prop} (a0:Aside0 A0) (f:A0→B:=by intro g0_;first|(with_reducible exact g0_)|((with_reducible repeat (first|apply Kd.R_alloc|apply Kd.R_drewN|apply Kd.R_drew));exact g0_)):B:=f a0.out
theorem zz16 {B:Prop} (f:B:=by repeat (first|exact Drawn0.refl _|apply Drawn0.step)):B:=f
theorem zz18 {B A0:Prop} (a0:Aside0 A0) (f:A0→B:=by intro g0_;have:=g0_;omega):B:=f a0.out
theorem zz22 {B:Prop} (f:B:=by first|exact Kd.R_nil _ _ _ _ _|exact Kd.N_nil _ _ _ _ _|exact Kd.V_nil _ _ _ _ _|exact Kd.Q_nil _ _ _ _ _|exact Kd.S_nil _ _ _ _ _):B:=f
theorem zz23 {B A0:Prop} (a0:Aside0 A0) (f:A0→B:=by intro g0_;first|(with_reducible exact g0_)|((with_reducible repeat (first|apply blk_drewN|apply blk_drew|apply blk_alloc));exact g0_)):B:=f a0.out
theorem zz24 {B A0 A1:Prop} (a0:Aside0 A0) (a1:Aside0 A1) (f:A0→A1→B:=by intro g0_ g1_;repeat (first|(with_reducible first|exact g0_|apply below_alloc|apply pw_below_drewN|apply below_drew1|refine below_set ?_ g1_)|exact g0_)):B:=f a0.out a1.out
theorem zz27 {B A0 A1 A2:Prop} (a0:Aside0 A0) (a1:Aside0 A1) (a2:Aside0 A2) (f:A0→A1→A2→B:=by intro g0_ g1_ g2_;repeat (first|(with_reducible first|exact g0_|apply below_alloc|apply pw_below_drewN|apply below_drew1|refine below_set ?_ g1_|refine below_set ?_ g2_)|exact g0_)):B:=f a0.out a1.out a2.out
theorem zz28 {B A0:Prop} (a0:Aside0 A0) (f:A0→B:=by intro g0_;apply Kd.R_mono;(focus ((repeat (first|(with_reducible first|exact g0_|apply Kd.R_alloc|apply Kd.R_drewN|apply Kd.R_drew|apply Kd.R_far)|exact g0_));all_goals (intro _ hk_;first|exact hk_.2|exact hk_.1.2|exact hk_.1.1.2|exact hk_.1.1.1.2|exact hk_.1.1.1.1.2|exact hk_.1.1.1.1.1.2|exact hk_.1.1.1.1.1.1.2)));intro _ hk_;first|exact trivial|(repeat' (with_reducible apply And.intro)) <;> first|exact hk_|exact hk_.2|exact hk_.1.2|exact hk_.1.1.2|exact hk_.1.1.1.2|exact hk_.1.1.1.1.2|exact hk_.1.1.1.1.1.2|exact hk_.1.1.1.1.1.1.2|exact hk_.1|exact hk_.1.1|exact hk_.1.1.1|exact hk_.1.1.1.1|exact hk_.1.1.1.1.1|exact hk_.1.1.1.1.1.1|exact hk_.2.2|exact hk_.1.2.2|exact hk_.1.1.2.2|exact hk_.1.1.1.2.2|exact hk_.1.1.1.1.2.2|exact hk_.1.1.1.1.1.2.2|exact hk_.1.1.1.1.1.1.2.2|exact hk_.2.2.2|exact hk_.1.2.2.2|exact hk_.1.1.2.2.2|exact hk_.1.1.1.2.2.2|exact hk_.1.1.1.1.2.2.2|exact hk_.1.1.1.1.1.2.2.2|exact hk_.1.1.1.1.1.1.2.2.2|exact hk_.2.2.2.2|exact hk_.1.2.2.2.2|exact hk_.1.1.2.2.2.2|exact hk_.1.1.1.2.2.2.2|exact hk_.1.1.1.1.2.2.2.2|exact hk_.1.1.1.1.1.2.2.2.2|exact hk_.1.1.1.1.1.1.2.2.2.2|exact hk_.2.2.2.2.2|exact hk_.1.2.2.2.2.2|exact hk_.1.1.2.2.2.2.2|exact hk_.1.1.1.2.2.2.2.2|exact hk_.1.1.1.1.2.2.2.2.2|exact hk_.1.1.1.1.1.2.2.2.2.2|exact hk_.1.1.1.1.1.1.2.2.2.2.2|exact hk_.2.1|exact hk_.1.2.1|exact hk_.1.1.2.1|exact hk_.1.1.1.2.1|exact hk_.1.1.1.1.2.1|exact hk_.1.1.1.1.1.2.1|exact hk_.2.2.1|exact hk_.1.2.2.1|exact hk_.1.1.2.2.1|exact hk_.1.1.1.2.2.1|exact hk_.1.1.1.1.2.2.1|exact hk_.1.1.1.1.1.2.2.1|exact hk_.2.2.2.1|exact hk_.1.2.2.2.1|exact hk_.1.1.2.2.2.1|exact hk_.1.1.1.2.2.2.1|exact hk_.1.1.1.1.2.2.2.1|exact hk_.1.1.1.1.1.2.2.2.1|exact hk_.2.2.2.2.1|exact hk_.1.2.2.2.2.1|exact hk_.1.1.2.2.2.2.1|exact hk_.1.1.1.2.2.2.2.1|exact hk_.1.1.1.1.2.2.2.2.1|exact hk_.1.1.1.1.1.2.2.2.2.1|exact hk_.2.2.2.2.2.1|exact hk_.1.2.2.2.2.2.1|exact hk_.1.1.2.2.2.2.2.1|exact hk_.1.1.1.2.2.2.2.2.1|exact hk_.1.1.1.1.2.2.2.2.2.1|exact hk_.1.1.1.1.1.2.2.2.2.2.1):B:=f a0.out
theorem zz30 {B A0:Prop} (a0:Aside0 A0) (f:A0→B:=by intro g0_;first|((repeat (first|(with_reducible first|exact g0_|refine blk_drewN ?_ _|refine blk_drew ?_|refine blk_alloc ?_ _|apply blk_put)|exact g0_));all_goals rfl;done)|(apply blk_put (i:=1);apply blk_put (i:=0);exact g0_;all_goals rfl)):B:=f a0.out
theorem zz31 {B A0 A1:Prop} (a0:Aside0 A0) (a1:Aside0 A1) (f:A0→A1→B:=by intro g0_ g1_;have:=g0_;have:=g1_;omega):B:=f a0.out a1.out
theorem zz38 {B A0:Prop} (a0:Aside0 A0) (f:A0→B:=by intro g0_;have:=g0_;first|omega|exact Nat.le_refl _):B:=f a0.out
theorem zz39 {B A0:Prop} (a0:Aside0 A0) (f:A0→B:=by intro g0_;first|((repeat (first|(with_reducible first|exact g0_|refine blk_drewN ?_ _|refine blk_drew ?_|refine blk_alloc ?_ _|apply blk_put)|exact g0_));all_goals rfl;done)|(apply blk_put (i:=2);apply blk_put (i:=1);apply blk_put (i:=0);exact g0_;all_goals rfl)):B:=f a0.out
theorem zz42 {B A0 A1 A2:Prop} (a0:Aside0 A0) (a1:Aside0 A1) (a2:Aside0 A2) (f:A0→A1→A2→B:=by intro g0_ g1_ g2_;have:=g0_;have:=g1_;have:=g2_;omega):B:=f a0.out a1.out a2.out
theorem zz55 {B A0:Prop} (a0:Aside0 A0) (f:A0→B:=by intro g0_;repeat (first|exact (Kd.R_reads' g0_).2.2|(with_reducible refine Kd.C_alloc ?_ _)|(with_reducible refine Kd.C_drewN ?_ _)|(with_reducible refine Kd.C_drew ?_))):B:=f a0.out
theorem zz57 {B A0:Prop} (a0:Aside0 A0) (f:A0→B:=by intro g0_;(with_reducible repeat (first|apply Kd.S_alloc|apply Kd.S_drewN|apply Kd.S_drew));exact g0_):B:=f a0.out
theorem zz59 {B A0 A1:Prop} (a0:Aside0 A0) (a1:Aside0 A1) (f:A0→A1→B:=by intro g0_ g1_;repeat (first|(with_reducible first|exact g0_|apply IsS66.alloc|apply IsS66.drewN|apply IsS66.drew|apply IsS66.set_1|refine IsS66.far ?_ g1_ _)|exact g0_)):B:=f a0.out a1.out
theorem zz60 {B A0 A1 A2:Prop} (a0:Aside0 A0) (a1:Aside0 A1) (a2:Aside0 A2) (f:A0→A1→A2→B:=by intro g0_ g1_ g2_;repeat (first|(with_reducible first|exact g0_|apply below_alloc|apply pw_below_drewN|apply below_drew1|refine below_set ?_ (IsS66.ge g1_)|refine below_set ?_ g2_)|exact g0_)):B:=f a0.out a1.out a2.out
theorem zz62 {B A0 A1:Prop} (a0:Aside0 A0) (a1:Aside0 A1) (f:A0→A1→B:=by intro g0_ g1_;(with_reducible repeat (first|apply Kd.R_alloc|apply Kd.R_drewN|apply Kd.R_drew));exact (Kd.R_mono (Kd.R_far (p:=⟨gb145,2,none⟩) (Kd.R_far (p:=⟨gb145,1,none⟩) (Kd.R_far (p:=⟨gb145,0,none⟩) (Kd.R_types g0_ g1_ (by decide)) (fun _ hk=>hk.2) (.slice Ao23 y134.length co23)) (fun _ hk=>hk.2) (.slice Ao22 t137.length co22)) (fun _ hk=>hk.2) (.int .i64 (wrap64 (t141 * t143)))) (fun _ h_=>h_.1))):B:=f a0.out a1.out
theorem zz63 {B A0 A1:Prop} (a0:Aside0 A0) (a1:Aside0 A1) (f:A0→A1→B:=by intro g0_ g1_;repeat (first|(with_reducible first|exact g0_|apply KeepBut.set_|apply keep_drewN|apply keep_drew|apply keep_alloc|refine keep_far ?_ g1_ _)|exact g0_)):B:=f a0.out a1.out
theorem zz64 {B A0:Prop} (a0:Aside0 A0) (f:A0→B:=by intro g0_;(with_reducible repeat (first|apply Kd.R_alloc|apply Kd.R_drewN|apply Kd.R_drew));exact Kd.R_mono g0_ (fun _ hk=>⟨hk.1.2,hk.2⟩)):B:=f a0.out
theorem zz69 {B A0:Prop} (a0:Aside0 A0) (f:A0→B:=by intro g0_;(with_reducible repeat (first|apply Kd.S_alloc|apply Kd.S_drewN|apply Kd.S_drew));exact Kd.S_mono g0_ (fun k_ hk=>⟨⟨hk.1,⟨hk.2.2.1,hk.2.2.2.2⟩⟩,fun e_=>e_.elim (fun h_=>hk.2.2.2.1 h_) (fun h_=>hk.2.1 h_)⟩)):B:=f a0.out
theorem zz70 {B A0:Prop} (a0:Aside0 A0) (f:A0→B:=by intro g0_;(with_reducible repeat (first|apply Kd.S_alloc|apply Kd.S_drewN|apply Kd.S_drew));exact Kd.S_mono g0_ (fun _ hk=>trivial)):B:=f a0.out
theorem zz71 {B A0:Prop} (a0:Aside0 A0) (f:A0→B:=by intro g0_;(with_reducible repeat (first|apply Kd.S_alloc|apply Kd.S_drewN|apply Kd.S_drew));exact Kd.S_mono g0_ (fun k_ hk=>⟨⟨hk.1.1.1.2,hk.2⟩,fun e_=>e_.elim (fun h_=>hk.1.1.2 h_) (fun h_=>hk.1.2 h_)⟩)):B:=f a0.out
theorem zz72 {B A0:Prop} (a0:Aside0 A0) (f:A0→B:=by intro g0_;(with_reducible repeat (first|apply Kd.S_alloc|apply Kd.S_drewN|apply Kd.S_drew));exact Kd.S_mono g0_ (fun k_ hk=>⟨trivial,fun e_=>hk.2 e_⟩)):B:=f a0.out
theorem zz77 {B A0 A1:Prop} (a0:Aside0 A0) (a1:Aside0 A1) (f:A0→A1→B:=by intro g0_ g1_;repeat (first|exact (Kd.C_below g0_ g1_)|(with_reducible refine Kd.C_alloc ?_ _)|(with_reducible refine Kd.C_drewN ?_ _)|(with_reducible refine Kd.C_drew ?_))):B:=f a0.out a1.out
theorem zz118 {B A0:Prop} (a0:Aside0 A0) (f:A0→B:=by intro g0_;(with_reducible repeat (first|apply Kd.N_alloc|apply Kd.N_drewN|apply Kd.N_drew));exact g0_):B:=f a0.out
theorem zz119 {B A0:Prop} (a0:Aside0 A0) (f:A0→B:=by intro g0_;repeat (first|exact (Kd.N_reads' g0_).2.2|(with_reducible refine Kd.C_alloc ?_ _)|(with_reducible refine Kd.C_drewN ?_ _)|(with_reducible refine Kd.C_drew ?_))):B:=f a0.out
end Go.Proofs.YtfpngfkepeoboaaDoor.P
end
section
namespace Go.Proofs.YtfpngfkepeoboaaDoor.P
open Go.RowKit Go.Proofs.YtfpngfkepeoboaaDoorW.PrintWords Go.Proofs.YtfpngfkepeoboaaDoorW.PrintLast Go.Proofs.YtfpngfkepeoboaaDoorW.PrintMore
attribute [local go_sem] max2_int min2_int max_two min_two max_three min_three max_four min_four
set_option linter.unusedVariables false
set_option linter.unusedSimpArgs false
set_option maxHeartbeats 8000000
set_option maxRecDepth 100000
def IsS66 (w0 W:World) (g:Nat) (f0:List Int) (f1:Int):Prop:=∃ A0 c0,W.heap[g]?=some (.cells #[.slice A0 f0.length c0,.int .i64 f1] 66 (0,0))∧w0.heap.size≤g∧Kd.C (Kd.int .u8) w0 A0 f0.length f0
theorem IsS66.grown {w0 W:World} {g:Nat} {f0:List Int} {f1:Int} {W1:World} {row:Option Nat} (h:IsS66 w0 W g f0 f1) (hw:W.grownBy W1 row) (hne:some g≠row):IsS66 w0 W1 g f0 f1:=by
 obtain ⟨A0,c0,hb,hg,hr0⟩:=h;exact ⟨A0,c0,blk_grown hb hw hne,hg,hr0⟩
theorem IsS66.kept {w0 W:World} {g:Nat} {f0:List Int} {f1:Int} {W1:World} {S:Nat→Prop} (h:IsS66 w0 W g f0 f1) (hk:Kept W W1 S) (hne:¬ S g):IsS66 w0 W1 g f0 f1:=by
 obtain ⟨A0,c0,hb,hg,hr0⟩:=h;exact ⟨A0,c0,blk_kept hb hk hne,hg,hr0⟩
theorem IsS66.below {w0 W:World} {g:Nat} {f0:List Int} {f1:Int} {W1:World} (h:IsS66 w0 W g f0 f1) (hw:Below W.heap.size W W1):IsS66 w0 W1 g f0 f1:=h.grown (grown_of_below hw none) (by simp)
theorem IsS66.alloc {w0 W:World} {g:Nat} {f0:List Int} {f1:Int} (h:IsS66 w0 W g f0 f1) (o:Obj):IsS66 w0 (W.alloc o) g f0 f1:=h.below (below_alloc (Below.refl _ _) o)
theorem IsS66.drewN {w0 W:World} {g:Nat} {f0:List Int} {f1:Int} (h:IsS66 w0 W g f0 f1) (m:Nat):IsS66 w0 (W.drewN m) g f0 f1:=h
theorem IsS66.drew {w0 W:World} {g:Nat} {f0:List Int} {f1:Int} (h:IsS66 w0 W g f0 f1):IsS66 w0 W.drew g f0 f1:=h
theorem IsS66.at_ {w0 W:World} {g:Nat} {f0:List Int} {f1:Int} {w':World} {m:Nat} (hq:W.drewN m=w') (h:IsS66 w0 W g f0 f1):IsS66 w0 w' g f0 f1:=by subst hq;exact IsS66.drewN h m
theorem IsS66.apart {w0 W:World} {g:Nat} {f0:List Int} {f1:Int} {α:Type} {d:Kd α} {e:Nat} {base:Nat} {ok:Nat→Prop} {v:Value} {xs:List α} (h:IsS66 w0 W g f0 f1) (ho:d.R e W base ok v xs) (ht:∀ q,q ∈ e :: d.E→q≠66):d.R e W base (fun k=>ok k∧k≠g) v xs:=by
 obtain ⟨A0,c0,hb,hg,hr0⟩:=h;exact Kd.R_types ho hb ht
theorem IsS66.own_ne {w0 W:World} {g:Nat} {f0:List Int} {f1:Int} {α:Type} {d:Kd α} {e:Nat} {base:Nat} {ok:Nat→Prop} {v:Value} {xs:List α} (h:IsS66 w0 W g f0 f1) (ho:d.R e W base ok v xs) (ht:e≠66):some g≠v.ownBlock:=by
 obtain ⟨A0,c0,hb,hg,hr0⟩:=h;exact Kd.R_ne ho hb ht
theorem IsS66.apartS {w0 W:World} {g:Nat} {f0:List Int} {f1:Int} {α:Type} {d:Kd α} {e:Nat} {base:Nat} {ok:Nat→Prop} {v:Value} {xs:List α} (h:IsS66 w0 W g f0 f1) (ho:d.S e W base ok v xs) (ht:∀ q,q ∈ e :: d.E→q≠66):d.S e W base (fun k=>ok k∧k≠g) v xs:=by
 obtain ⟨A0,c0,hb,hg,hr0⟩:=h;exact Kd.S_types ho hb ht
theorem IsS66.own_neS {w0 W:World} {g:Nat} {f0:List Int} {f1:Int} {α:Type} {d:Kd α} {e:Nat} {base:Nat} {ok:Nat→Prop} {v:Value} {xs:List α} (h:IsS66 w0 W g f0 f1) (ho:d.S e W base ok v xs) (ht:e≠66):some g≠v.ownBlock:=by
 obtain ⟨A0,c0,hb,hg,hr0⟩:=h;exact Kd.S_ne ho hb ht
theorem IsS66.lt {w0 W:World} {g:Nat} {f0:List Int} {f1:Int} (h:IsS66 w0 W g f0 f1):g < W.heap.size:=by
 obtain ⟨A0,c0,hb,hg,hr0⟩:=h;exact blk_lt hb
theorem IsS66.ge {w0 W:World} {g:Nat} {f0:List Int} {f1:Int} (h:IsS66 w0 W g f0 f1):w0.heap.size≤g:=by
 obtain ⟨A0,c0,hb,hg,hr0⟩:=h;exact hg
theorem IsS66.far {w0 W:World} {g:Nat} {f0:List Int} {f1:Int} {p:Addr} (h:IsS66 w0 W g f0 f1) (hne:g≠p.block) (u:Value):IsS66 w0 (W.setCell p u) g f0 f1:=by
 obtain ⟨A0,c0,hb,hg,hr0⟩:=h;exact ⟨A0,c0,blk_far hb hne u,hg,hr0⟩
theorem cellS66_0 {W:World} {g:Nat} {A0:Option Addr} {c0:Nat} {f0:List Int} {f1:Int} (h:W.heap[g]?=some (.cells #[.slice A0 f0.length c0,.int .i64 f1] 66 (0,0))):W.cell? ⟨g,0,none⟩=some (.slice A0 f0.length c0):=(blk_cell h 0).trans rfl
theorem cellS66_1 {W:World} {g:Nat} {A0:Option Addr} {c0:Nat} {f0:List Int} {f1:Int} (h:W.heap[g]?=some (.cells #[.slice A0 f0.length c0,.int .i64 f1] 66 (0,0))):W.cell? ⟨g,1,none⟩=some (.int .i64 f1):=(blk_cell h 1).trans rfl
theorem IsS66.set_1 {w0 W:World} {g:Nat} {f0:List Int} {f1:Int} (h:IsS66 w0 W g f0 f1) (x:Int):IsS66 w0 (W.setCell ⟨g,1,none⟩ (.int .i64 x)) g f0 x:=by
 obtain ⟨A0,c0,hb,hg,hr0⟩:=h;exact ⟨A0,c0,(by simpa using blk_set hb 1 (.int .i64 x)),hg,hr0⟩
def spec_l6Rd_pick.j0:Nat→Int→Bool→List Int→Int→Option (Int×Int)
 | 0,_,_,_,_=>none
 | k+1,x1,x24,x1000,x1001=>if x24=true then (some (0,x1001)) else (if (wrap64 (x1001 - 1)) < (x1000.length:Int) then (if 0≤(wrap64 (x1001 - 1)) then (if x1=0 then (none) else (some (Int.tmod (wrap64 (rd x1000 (wrap64 (x1001 - 1)))) x1,x1001))) else (none)) else (if (x1000.length:Int)=0 then (none) else (if 0≤(Int.tmod (wrap64 (x1001 - 1)) (x1000.length:Int)) then (if (Int.tmod (wrap64 (x1001 - 1)) (x1000.length:Int)) < (x1000.length:Int) then (if 0≤(Int.tmod (wrap64 ((wrap64 ((wrap64 (x1001 - 1)) * 7))+3)) (x1000.length:Int)) then (if (Int.tmod (wrap64 ((wrap64 ((wrap64 (x1001 - 1)) * 7))+3)) (x1000.length:Int)) < (x1000.length:Int) then (if x1=0 then (none) else (some (Int.tmod (Go.bits .xor .i64 (wrap64 ((wrap64 ((wrap64 ((wrap64 ((wrap64 (rd x1000 (Int.tmod (wrap64 (x1001 - 1)) (x1000.length:Int)))) * 131))+(wrap64 ((wrap64 (rd x1000 (Int.tmod (wrap64 ((wrap64 ((wrap64 (x1001 - 1)) * 7))+3)) (x1000.length:Int)))) * 1117))))+(wrap64 ((wrap64 (x1001 - 1)) * 29))))+(wrap64 ((wrap64 (Int.tdiv (wrap64 (x1001 - 1)) (x1000.length:Int))) * 53)))) (wrap64 (Int.tdiv (wrap64 ((wrap64 ((wrap64 ((wrap64 ((wrap64 (rd x1000 (Int.tmod (wrap64 (x1001 - 1)) (x1000.length:Int)))) * 131))+(wrap64 ((wrap64 (rd x1000 (Int.tmod (wrap64 ((wrap64 ((wrap64 (x1001 - 1)) * 7))+3)) (x1000.length:Int)))) * 1117))))+(wrap64 ((wrap64 (x1001 - 1)) * 29))))+(wrap64 ((wrap64 (Int.tdiv (wrap64 (x1001 - 1)) (x1000.length:Int))) * 53)))) 64))) x1,x1001))) else (none)) else (none)) else (none)) else (none))))
def spec_l6Rd_pick.f (k:Nat) (s0_0:List Int) (s0_1:Int) (a1:Int):Option (Int×Int):=if a1 < 1 then (spec_l6Rd_pick.j0 k a1 true s0_0 (wrap64 (s0_1+1))) else (spec_l6Rd_pick.j0 k a1 ((s0_0.length:Int) == 0) s0_0 (wrap64 (s0_1+1)))
theorem spec_l6Rd_pick.mono_l:∀ k,(∀ y0 y1 y2 y3,LeO (spec_l6Rd_pick.j0 k y0 y1 y2 y3) (spec_l6Rd_pick.j0 (k+1) y0 y1 y2 y3))
 | 0=>by intros;intro r h;simp [spec_l6Rd_pick.j0] at h
 | k+1=>by
  have ih0:=spec_l6Rd_pick.mono_l k;intros;unfold spec_l6Rd_pick.j0;repeat' first|(with_reducible first|exact ih0 _ _ _ _|exact LeO.refl _|exact LeO.none _|refine LeO.ite ?_ ?_|refine LeO.bind ?_ (fun _=>?_))|exact LeO.none _|refine LeO.ite ?_ ?_|refine LeO.bind ?_ (fun _=>?_)
theorem spec_l6Rd_pick.mono:∀ a0 a1 a2 k,LeO (spec_l6Rd_pick.f k a0 a1 a2) (spec_l6Rd_pick.f (k+1) a0 a1 a2):=by
 intro a0 a1 a2 k;have ih0:=spec_l6Rd_pick.mono_l k;unfold spec_l6Rd_pick.f
 repeat' first|(with_reducible first|exact ih0 _ _ _ _|exact LeO.refl _|exact LeO.none _|refine LeO.ite ?_ ?_|refine LeO.bind ?_ (fun _=>?_))|exact LeO.none _|refine LeO.ite ?_ ?_|refine LeO.bind ?_ (fun _=>?_)
theorem spec_l6Rd_pick.calls (k:Nat) (g:Nat) (s0_0:List Int) (s0_1:Int) (a1:Int) (r1:Int) (r2:Int) (w0 w:World) (hI:IsS66 w0 w g s0_0 s0_1) (hB:Below w0.heap.size w0 w) (h:spec_l6Rd_pick.f k s0_0 s0_1 a1=some (r1,r2)) :
  Calls Tryd.prog 25 #[.pointer (some ⟨g,0,none⟩),.int .i64 a1] w fun e w'=>e=.returned (.int .i64 r1)∧IsS66 w0 w' g s0_0 r2∧Below w0.heap.size w0 w'∧KeepBut w w' g none:=by
 have HI0:=A_ hI;have HK:=A_ (KeepBut.refl w g none);have HL:=A_ hB.size;clear hI;have HW0:=A_ hB.size;have HB:=A_ hB;clear hB;unfold spec_l6Rd_pick.f at h
 have H:=h;clear h;have HC3:=A_ H;clear H;obtain ⟨ASz4_0,cSz4_0,HGz4,hgz4,HSz4_0⟩:=HI0.out;have hcz4_0:=cellS66_0 HGz4;have hcz4_1:=cellS66_1 HGz4;have hfz4_1:=blk_frozen HGz4 1;clear HGz4 hgz4;go_enter Tryd.func25,Tryd.ntmps25;go_upto_region 2 with (fail)
 repeat (go_quiet (fail);go_upto_region 2 with (fail))
 go_cut [24] (fun v24 wc=>∃ (kq:Nat) (x24_2:Bool),v24=.bool x24_2∧Aside0 (spec_l6Rd_pick.j0 kq a1 x24_2 s0_0 (wrap64 (s0_1+1))=some (r1,r2))∧Aside0 (kq≤k)∧Aside0 (IsS66 w0 wc g s0_0 (wrap64 (s0_1+1)))∧Aside0 (KeepBut w wc g none)∧Aside0 (Below w0.heap.size w0 wc))
 case first=>
  obtain ⟨H⟩:=HC3;replace H:=iteEd H;rcases H with ⟨c5b0,H⟩|⟨c5b0,H⟩
  ·(first|rw [c5b0]|(simp only [i64_w,i32_w];rw [c5b0])|skip)
   have H':=A_ H;clear H;go_wp2
   repeat (go_quiet (fail);try go_wp2)
   go_meet
   case rel=>exact ⟨_,(true),zz2,H',⟨zz3⟩,⟨(zz4 HI0)⟩,⟨(zz5 HK)⟩,⟨(zz6 HB HI0)⟩⟩
  ·(first|rw [c5b0]|(simp only [i64_w,i32_w];rw [c5b0])|skip)
   have H':=A_ H;clear H;obtain ⟨ASz6_0,cSz6_0,HGz6,hgz6,HSz6_0⟩:=HI0.out;have hcz6_0:=cellS66_0 HGz6;have hcz6_1:=cellS66_1 HGz6;have hfz6_1:=blk_frozen HGz6 1;clear HGz6 hgz6;go_wp2
   repeat (go_quiet (fail);try go_wp2)
   go_meet
   case rel=>exact ⟨_,(((s0_0.length:Int) == 0)),zz2,H',⟨zz3⟩,⟨(zz4 HI0)⟩,⟨(zz5 HK)⟩,⟨(zz6 HB HI0)⟩⟩
 case rest=>
  clear HC3;obtain ⟨kq,x24_2,rfl,HA,HJ2,HI0,HK,HB⟩:=hcut;cases kq with
  | zero=>exact absurd HA.out (by simp [spec_l6Rd_pick.j0])
  | succ kj2=>
   obtain ⟨H⟩:=HA;simp only [spec_l6Rd_pick.j0] at H
   replace H:=iteB H;rcases H with ⟨rfl,H⟩|⟨rfl,H⟩
   ·simp only [Option.some.injEq,Prod.mk.injEq] at H
    obtain ⟨rfl,rfl⟩:=H;go_wp2
    repeat (go_quiet (fail);try go_wp2)
    go_ret
    exact ⟨zz8,(zz4 HI0),(zz6 HB HI0),(zz5 HK)⟩
   ·replace H:=iteE H
    rcases H with ⟨c8,H⟩|⟨c8,H⟩
    ·have c8b0:=dT c8
     clear c8;obtain ⟨ji9,hji9⟩:∃ j_:Int,(wrap64 ((wrap64 (s0_1+1)) - 1))=j_:=⟨_,rfl⟩;(first|rw [hji9] at H|simp only [hji9] at H)
     (try rw [hji9] at c8b0)
     have hji9w:(IntKind.i64.wrap ((wrap64 (s0_1+1)) - 1))=ji9:=(i64_w _).trans hji9;replace H:=iteNd H;obtain ⟨c10b0,H⟩:=H;replace H:=iteM H;obtain ⟨c11,H⟩:=H;obtain ⟨c11b0,c11b1⟩:=eqF c11;simp only [Option.some.injEq,Prod.mk.injEq] at H
     obtain ⟨rfl,rfl⟩:=H;obtain ⟨ASz12_0,cSz12_0,HGz12,hgz12,HSz12_0⟩:=HI0.out;have hcz12_0:=cellS66_0 HGz12;have hcz12_1:=cellS66_1 HGz12;have hfz12_1:=blk_frozen HGz12 1;clear HGz12 hgz12;obtain ⟨⟨ad101,e101,hx101_0⟩,p101,q101⟩:=atB (Kd.at_int HSz12_0 (ji9));cases e101
     replace hx101_0:=pw_cell_below HB.out hx101_0;go_wp2
     repeat (go_quiet (fail);try go_wp2)
     go_ret
     exact ⟨zz9,(zz4 HI0),(zz6 HB HI0),(zz5 HK)⟩
    ·have c8b0:=dF c8
     clear c8;replace H:=iteM H;obtain ⟨c13,H⟩:=H;obtain ⟨c13b0,c13b1⟩:=eqF c13;have c13b2:¬ (s0_0=[]):=fun h_=>c13 (by rw [h_];rfl)
     obtain ⟨ji14,hji14⟩:∃ j_:Int,(Int.tmod (wrap64 ((wrap64 (s0_1+1)) - 1)) (s0_0.length:Int))=j_:=⟨_,rfl⟩;(first|rw [hji14] at H|simp only [hji14] at H)
     replace H:=iteE H;rcases H with ⟨c15,H⟩|⟨c15,H⟩
     ·have c15b0:=dT c15
      clear c15;replace H:=iteNd H;obtain ⟨c16b0,H⟩:=H;obtain ⟨ji17,hji17⟩:∃ j_:Int,(Int.tmod (wrap64 ((wrap64 ((wrap64 ((wrap64 (s0_1+1)) - 1)) * 7))+3)) (s0_0.length:Int))=j_:=⟨_,rfl⟩;(first|rw [hji17] at H|simp only [hji17] at H)
      replace H:=iteNd H;obtain ⟨c18b0,H⟩:=H;replace H:=iteNd H;obtain ⟨c19b0,H⟩:=H;replace H:=iteM H;obtain ⟨c20,H⟩:=H;obtain ⟨c20b0,c20b1⟩:=eqF c20;simp only [Option.some.injEq,Prod.mk.injEq] at H
      obtain ⟨rfl,rfl⟩:=H;obtain ⟨ASz21_0,cSz21_0,HGz21,hgz21,HSz21_0⟩:=HI0.out;have hcz21_0:=cellS66_0 HGz21;have hcz21_1:=cellS66_1 HGz21;have hfz21_1:=blk_frozen HGz21 1;clear HGz21 hgz21;obtain ⟨⟨ad102,e102,hx102_0⟩,p102,q102⟩:=atB (Kd.at_int HSz21_0 (ji14));cases e102
      replace hx102_0:=pw_cell_below HB.out hx102_0;obtain ⟨⟨ad103,e103,hx103_0⟩,p103,q103⟩:=atB (Kd.at_int HSz21_0 (ji17));obtain rfl:ad102=ad103:=(by injection e103);replace hx103_0:=pw_cell_below HB.out hx103_0;go_wp2
      repeat (go_quiet (fail);try go_wp2)
      go_ret
      exact ⟨(by first|rfl|(simp [errW_none,errW_some] <;> rfl)|(simp only [← hji14,← hji17];first|rfl|(simp [errW_none,errW_some] <;> rfl))|(simp [*,errW_none,errW_some] <;> rfl)),(zz4 HI0),(zz6 HB HI0),(zz5 HK)⟩
     ·exact absurd H (by simp)
def spec_l6Dec.f:Nat→Int→Option (ByteArray)
 | 0,_=>none
 | k+1,a0=>if a0 < (-9223372036854775807) then (some (⟨#[45,57,50,50,51,51,55,50,48,51,54,56,53,52,55,55,53,56,48,56]⟩:ByteArray)) else (if a0 < 0 then ((spec_l6Dec.f k (wrap64 (-a0))).bind fun t236=>(if 1+t236.size≤9223372036854775807 then (some ((⟨#[45]⟩:ByteArray)++t236)) else (none))) else (if a0 < 10 then (some (strOfNums (([(wrap64 (48+a0)) % 256]:List Int)))) else ((spec_l6Dec.f k (wrap64 (Int.tdiv a0 10))).bind fun t240=>((some (([(wrap64 (48+(Int.tmod a0 10))) % 256]:List Int):List Int)).bind fun y241=>(if t240.size+(strOfNums y241).size≤9223372036854775807 then (some (t240++(strOfNums y241))) else (none))))))
theorem spec_l6Dec.mono_l:∀ k,(∀ y0,LeO (spec_l6Dec.f k y0) (spec_l6Dec.f (k+1) y0))
 | 0=>by intros;intro r h;simp [spec_l6Dec.f] at h
 | k+1=>by
  have ih0:=spec_l6Dec.mono_l k;intros;unfold spec_l6Dec.f;repeat' first|(with_reducible first|exact ih0 _|exact LeO.refl _|exact LeO.none _|refine LeO.ite ?_ ?_|refine LeO.bind ?_ (fun _=>?_))|exact LeO.none _|refine LeO.ite ?_ ?_|refine LeO.bind ?_ (fun _=>?_)
theorem spec_l6Dec.mono:∀ a0 k,LeO (spec_l6Dec.f k a0) (spec_l6Dec.f (k+1) a0):=by
 intro a0 k;have ih0:=spec_l6Dec.mono_l k;exact ih0 a0
def spec_l6Dec.T7:Bool×List (List Nat×List Nat):=(true,[([],[]),([0],[0]),([1],[1]),([],[]),([3],[3]),([4],[4]),([5],[5]),([6],[6]),([7],[7]),([2,8],[2,8]),([9,2,0,1,2,3,4,5,6,7,8,9],[9])])
def spec_l6Dec.B7:List Nat:=[0,1,3,0,8,24,56,120,248,511,1023]
theorem spec_l6Dec.tab7:rtab .any (opsOf Tryd.f17 7)=spec_l6Dec.T7:=by kernel_rfl
theorem spec_l6Dec.bits7:waitsOk spec_l6Dec.T7.2 spec_l6Dec.B7=true:=by kernel_rfl
theorem spec_l6Dec.calls (k:Nat):∀ (a0:Int) (r:ByteArray) (w:World) (h:spec_l6Dec.f k a0=some r),
  Calls Tryd.prog 17 #[.int .i64 a0] w fun e w'=>e=.returned (.string r)∧Below w.heap.size w w':=by
 induction k using Nat.strongRecOn with
 | _ k ih=>
 intro a0 r w h;cases k with
 | zero=>exact absurd h (by simp [spec_l6Dec.f])
 | succ k=>
 simp only [spec_l6Dec.f] at h
 have HB:=A_ (Below.refl w.heap.size w);have H:(if a0 < (-9223372036854775807) then (some (⟨#[45,57,50,50,51,51,55,50,48,51,54,56,53,52,55,55,53,56,48,56]⟩:ByteArray)) else (if a0 < 0 then ((spec_l6Dec.f k (wrap64 (-a0))).bind fun t236=>(if 1+t236.size≤9223372036854775807 then (some ((⟨#[45]⟩:ByteArray)++t236)) else (none))) else (if a0 < 10 then (some (strOfNums (([(wrap64 (48+a0)) % 256]:List Int)))) else ((spec_l6Dec.f k (wrap64 (Int.tdiv a0 10))).bind fun t240=>((some (([(wrap64 (48+(Int.tmod a0 10))) % 256]:List Int):List Int)).bind fun y241=>(if t240.size+(strOfNums y241).size≤9223372036854775807 then (some (t240++(strOfNums y241))) else (none)))))))=some r:=h;clear h;replace H:=iteEd H;rcases H with ⟨c2b0,H⟩|⟨c2b0,H⟩
 ·obtain rfl:=sI H
  go_enter Tryd.func17,Tryd.ntmps17;go_wp2
  go_ret
  exact ⟨zz8,(zz12 HB)⟩
 ·replace H:=iteEd H
  rcases H with ⟨c3b0,H⟩|⟨c3b0,H⟩
  ·replace H:=bindA H
   obtain ⟨t236,A4,H⟩:=H;replace H:=iteN H;obtain ⟨c5,H⟩:=H;have c5b0:=eq_true c5;have c5b1:=dT c5;try have c5b2:(9223372036854775807 < 1+t236.size)=False:=eq_false (Nat.not_lt.2 c5)
   obtain rfl:=sI H;go_enter Tryd.func17,Tryd.ntmps17;go_wp2_with (first|(refine gR 17 (some 9) Tryd.func17 (ih k (by omega) (wrap64 (-a0)) t236 _ A4.out) ?_;rintro w6 hb;replace HB:=A_ (bS (zz12 HB) hb);(try clear hb)))
   go_ret
   exact ⟨zz8,(zz12 HB)⟩
  ·replace H:=iteEd H
   rcases H with ⟨c7b0,H⟩|⟨c7b0,H⟩
   ·obtain ⟨y237,Ny237⟩:=toY (([(wrap64 (48+a0)) % 256]:List Int))
    (first|with_reducible replace H:=bindZ Ny237 H|rw [← Ny237.out] at H|skip)
    obtain rfl:=sI H;go_enter Tryd.func17,Tryd.ntmps17;go_wp2_with (first|((with_reducible refine gD (N:=16) rfl ?_);refine Kd.R_lit (Kd.int .u8) _ 5 ?hg (N:=16) ?hd (xs:=([(wrap64 (48+a0)) % 256]:List Int)) (inner:=[.int .u8 ((wrap64 (48+a0)) % 256)]) (ok:=fun _=>True) (okp:=fun _=>True) ?hr ?hp (fun _ hk=>hk) trivial (Below.refl _ _) (Nat.le_refl _) (by simp) ?_;(case hd=>rfl);(case hg=>rfl);(case hr=>exact zz13);(case hp=>exact (Reps.one (show Kd.M (Kd.int .u8) _ _ _ ((wrap64 (48+a0)) % 256) [.int .u8 ((wrap64 (48+a0)) % 256)] from rfl) (Reps.none _ _)));intro v238 w8 ho9 hb hg_ hnew_;clear hg_ hnew_;(first|rw [← Ny237.out] at ho9|(simp only [Int.reduceToNat] at ho9;rw [← Ny237.out] at ho9));have HO239:=A_ (Kd.R_lower ho9 (below_size (zz12 HB)));replace HB:=A_ (bS (zz12 HB) hb);clear hb ho9;have hcv10:=own_string (P:=Tryd.prog) Tryd.underlying22 Tryd.underlying5 Tryd.underlying9 (Kd.own_of_R HO239.out)))
    go_ret
    exact ⟨zz8,(zz12 HB)⟩
   ·replace H:=bindA H
    obtain ⟨t240,A11,H⟩:=H;obtain ⟨y241,Ny241,H⟩:=bindY H;replace H:=iteE H;rcases H with ⟨c12,H⟩|⟨c12,H⟩
    ·have c12b0:=eq_true c12
     have c12b1:=dT c12;try have c12b2:(9223372036854775807 < t240.size+(strOfNums y241).size)=False:=eq_false (Nat.not_lt.2 c12)
     obtain rfl:=sI H;go_enter Tryd.func17,Tryd.ntmps17;try go_wp2
     replace HB:=A_ (below_drew1 HB.out);refine start_ (n:=11) (S:=fun w'=>True) (ds:=[]) #[yF,yF,yF,yF,yF,yF,yF,yF,yF,yF,yF] (by kernel_rfl) rfl rfl trivial (fun hHeld=>?_);refine with_tabW spec_l6Dec.tab7 spec_l6Dec.bits7 (fun HT_ HW_=>?_);generalize w.drew=w13 at HB hHeld ⊢;refine pureZ 0 (some 18) #[yT,yF,yF,yF,yF,yF,yF,yF,yF,yF,yF] ?_;refine pureZ 1 (some 19) #[yT,yT,yF,yF,yF,yF,yF,yF,yF,yF,yF] ?_;refine pureZ 3 (some 21) #[yT,yT,yF,yT,yF,yF,yF,yF,yF,yF,yF] ?_;refine pureZ 4 (some 22) #[yT,yT,yF,yT,yT,yF,yF,yF,yF,yF,yF] ?_;refine pureZ 5 (some 23) #[yT,yT,yF,yT,yT,yT,yF,yF,yF,yF,yF] ?_;refine pureZ 6 (some 24) #[yT,yT,yF,yT,yT,yT,yT,yF,yF,yF,yF] ?_;refine join_ (σ:=Value) 2 #[yT,yT,yT,yT,yT,yT,yT,yT,yT,yF,yF] (fun s_=>[(20,.string t240),(25,s_),(26,.string (strOfNums y241))]) (fun s_ w'=>(Kd.R (Kd.int .u8) 5 w' w.heap.size (fun _=>True) s_ y241)∧(Below w.heap.size w w')) ?_ ?_;rotate_left
     ·intro hCont
      refine twoZ 2 7 (some 20) (some 25) #[yT,yT,yT,yT,yT,yT,yT,yF,yF,yF,yF] #[yT,yT,yF,yT,yT,yT,yT,yT,yF,yF,yF] (fun K hK=>?_) (fun K hK=>?_)
      ·skip
       refine goes_ Tryd.func17 (by kernel_rfl) rfl #[.int .i64 (wrap64 (Int.tdiv a0 10))] (by rfl) rfl rfl zz14 ?_;with_reducible refine (ih k (by omega) (wrap64 (Int.tdiv a0 10)) t240 _ A11.out).mono ?_
       rintro e w14 ⟨rfl,hb⟩;refine ⟨_,rfl,?_⟩;replace HB:=A_ (bS (zz12 HB) hb);(try clear hb)
       (try clear hb2)
       (try clear hk)
       (try clear hi)
       refine hK.out _ _ trivial (fun hHeld=>?_);clear hK K;refine nZ 20 ?_;refine oneZ 7 (some 25) #[yT,yT,yT,yT,yT,yT,yT,yT,yF,yF,yF] (fun K hK=>?_);refine Kd.R_lit_step (Kd.int .u8) _ 5 ?hg (N:=25) ?hd (xs:=([(wrap64 (48+(Int.tmod a0 10))) % 256]:List Int)) (inner:=[.int .u8 ((wrap64 (48+(Int.tmod a0 10))) % 256)]) (ok:=fun _=>True) (okp:=fun _=>True) ?hr ?hp (fun _ hk=>hk) trivial (Below.refl _ _) (Nat.le_refl _) (by simp) ?_;(case hd=>rfl);(case hg=>rfl);(case hr=>exact zz13);(case hp=>exact (Reps.one (show Kd.M (Kd.int .u8) _ _ _ ((wrap64 (48+(Int.tmod a0 10))) % 256) [.int .u8 ((wrap64 (48+(Int.tmod a0 10))) % 256)] from rfl) (Reps.none _ _)));intro v242 w15 ho16 hb hg_ hnew_;clear hg_ hnew_;(first|rw [← Ny241.out] at ho16|(simp only [Int.reduceToNat] at ho16;rw [← Ny241.out] at ho16))
       have HO243:=A_ (Kd.R_lower ho16 (below_size (zz12 HB)));replace HB:=A_ (bS (zz12 HB) hb);clear hb ho16;refine hK.out _ _ trivial (fun hHeld=>?_);clear hK K;refine nZ 25 ?_;refine oneZ 8 (some 26) #[yT,yT,yT,yT,yT,yT,yT,yT,yT,yF,yF] (fun K hK=>?_);have hcv17:=own_string (P:=Tryd.prog) Tryd.underlying22 Tryd.underlying5 Tryd.underlying9 (Kd.own_of_R HO243.out);refine value_ (w1:=?_) (v:=?_) (by rfl) rfl ?_ ?_;rotate_left 2
       ·go_simp
        constructor
        ·rfl
        ·rfl
       clear hcv17;refine hK.out _ _ trivial (fun hHeld=>?_);clear hK K;refine nZ 26 ?_;exact norm_ viaP (hCont (v242) _ ⟨(zz15 HO243),(zz12 HB)⟩)
      ·skip
       refine Kd.R_lit_step (Kd.int .u8) _ 5 ?hg (N:=25) ?hd (xs:=([(wrap64 (48+(Int.tmod a0 10))) % 256]:List Int)) (inner:=[.int .u8 ((wrap64 (48+(Int.tmod a0 10))) % 256)]) (ok:=fun _=>True) (okp:=fun _=>True) ?hr ?hp (fun _ hk=>hk) trivial (Below.refl _ _) (Nat.le_refl _) (by simp) ?_;(case hd=>rfl);(case hg=>rfl);(case hr=>exact zz13);(case hp=>exact (Reps.one (show Kd.M (Kd.int .u8) _ _ _ ((wrap64 (48+(Int.tmod a0 10))) % 256) [.int .u8 ((wrap64 (48+(Int.tmod a0 10))) % 256)] from rfl) (Reps.none _ _)));intro v242 w14 ho15 hb hg_ hnew_;clear hg_ hnew_;(first|rw [← Ny241.out] at ho15|(simp only [Int.reduceToNat] at ho15;rw [← Ny241.out] at ho15))
       have HO243:=A_ (Kd.R_lower ho15 (below_size (zz12 HB)));replace HB:=A_ (bS (zz12 HB) hb);clear hb ho15;refine hK.out _ _ trivial (fun hHeld=>?_);clear hK K;refine nZ 25 ?_;refine twoZ 2 8 (some 20) (some 26) #[yT,yT,yT,yT,yT,yT,yT,yT,yF,yF,yF] #[yT,yT,yF,yT,yT,yT,yT,yT,yT,yF,yF] (fun K hK=>?_) (fun K hK=>?_)
       ·skip
        refine goes_ Tryd.func17 (by kernel_rfl) rfl #[.int .i64 (wrap64 (Int.tdiv a0 10))] (by rfl) rfl rfl zz14 ?_;with_reducible refine (ih k (by omega) (wrap64 (Int.tdiv a0 10)) t240 _ A11.out).mono ?_
        rintro e w16 ⟨rfl,hb⟩;refine ⟨_,rfl,?_⟩;replace HO243:=A_ (rB (zz15 HO243) hb);replace HB:=A_ (bS (zz12 HB) hb);(try clear hb)
        (try clear hb2)
        (try clear hk)
        (try clear hi)
        refine hK.out _ _ trivial (fun hHeld=>?_);clear hK K;refine nZ 20 ?_;refine oneZ 8 (some 26) #[yT,yT,yT,yT,yT,yT,yT,yT,yT,yF,yF] (fun K hK=>?_);have hcv17:=own_string (P:=Tryd.prog) Tryd.underlying22 Tryd.underlying5 Tryd.underlying9 (Kd.own_of_R HO243.out);refine value_ (w1:=?_) (v:=?_) (by rfl) rfl ?_ ?_;rotate_left 2
        ·go_simp
         constructor
         ·rfl
         ·rfl
        clear hcv17;refine hK.out _ _ trivial (fun hHeld=>?_);clear hK K;refine nZ 26 ?_;exact norm_ viaP (hCont (v242) _ ⟨(zz15 HO243),(zz12 HB)⟩)
       ·skip
        have hcv16:=own_string (P:=Tryd.prog) Tryd.underlying22 Tryd.underlying5 Tryd.underlying9 (Kd.own_of_R HO243.out);refine value_ (w1:=?_) (v:=?_) (by rfl) rfl ?_ ?_;rotate_left 2
        ·go_simp
         constructor
         ·rfl
         ·rfl
        clear hcv16;refine hK.out _ _ trivial (fun hHeld=>?_);clear hK K;refine nZ 26 ?_;refine oneZ 2 (some 20) #[yT,yT,yT,yT,yT,yT,yT,yT,yT,yF,yF] (fun K hK=>?_);refine goes_ Tryd.func17 (by kernel_rfl) rfl #[.int .i64 (wrap64 (Int.tdiv a0 10))] (by rfl) rfl rfl zz14 ?_;with_reducible refine (ih k (by omega) (wrap64 (Int.tdiv a0 10)) t240 _ A11.out).mono ?_
        rintro e w17 ⟨rfl,hb⟩;refine ⟨_,rfl,?_⟩;replace HO243:=A_ (rB (zz15 HO243) hb);replace HB:=A_ (bS (zz12 HB) hb);(try clear hb)
        (try clear hb2)
        (try clear hk)
        (try clear hi)
        refine hK.out _ _ trivial (fun hHeld=>?_);clear hK K;refine nZ 20 ?_;exact norm_ viaP (hCont (v242) _ ⟨(zz15 HO243),(zz12 HB)⟩)
     rintro v242 w18 ⟨h0_,h1_⟩;have n0_:=A_ h0_;have n1_:=A_ h1_;(try dsimp only at n0_ n1_)
     clear HB;clear h0_ h1_;have HO243:=n0_;have HB:=n1_;clear n0_ n1_;have hHeld:=trivial;refine norm_ (a':=?_) ?_ ?_;rotate_left
     ·simp only [putAll,Act.put,List.setIfInBounds_toArray,List.set_cons_zero,List.set_cons_succ]
      rfl
     refine pureZ 9 (some 27) #[yT,yT,yT,yT,yT,yT,yT,yT,yT,yT,yF] ?_;refine pureZ 10 (some 2) #[yT,yT,yT,yT,yT,yT,yT,yT,yT,yT,yT] ?_;refine done_ (done_of HT_.out (by kernel_rfl)) ?_;try go_wp2
     go_ret
     exact ⟨zz8,(zz12 HB)⟩
    ·exact absurd H (by simp)
def laws_lpTexts.l0:Nat→List ByteArray→List ByteArray→Int→Option (Bool)
 | 0,_,_,_=>none
 | k+1,x0,x1,x5=>if x5 < (x0.length:Int) then (if 0≤x5 then (if x5 < (x1.length:Int) then (if (rdOf ByteArray.empty x0 x5).toList=(rdOf ByteArray.empty x1 x5).toList then (laws_lpTexts.l0 k x0 x1 (wrap64 (x5+1))) else (some false)) else (none)) else (none)) else (some true)
def laws_lpTexts.f (k:Nat) (l0:List ByteArray) (l1:List ByteArray):Option (Bool):=if (l0.length:Int)=(l1.length:Int) then (laws_lpTexts.l0 k l0 l1 0) else (some false)
theorem laws_lpTexts.calls (k:Nat) (A0:Option Addr) (c0:Nat) (l0:List ByteArray) (A1:Option Addr) (c1:Nat) (l1:List ByteArray) (r:Bool) (w:World) (hr0:Kd.C Kd.string w A0 l0.length l0) (hc0:l0.length≤c0) (hr1:Kd.C Kd.string w A1 l1.length l1) (hc1:l1.length≤c1) (h:laws_lpTexts.f k l0 l1=some r) :
  Calls Tryd.prog 31 #[.slice A0 l0.length c0,.slice A1 l1.length c1] w fun e w'=>e=.returned (.bool r)∧Drawn0 w w':=by
 have HR0:=A_ hr0;have HC0:=A_ hc0;clear hr0 hc0;have HR1:=A_ hr1;have HC1:=A_ hc1;clear hr1 hc1;unfold laws_lpTexts.f at h
 have H:=h;clear h;replace H:=iteE H;rcases H with ⟨c3,H⟩|⟨c3,H⟩
 ·obtain ⟨c3b0,c3b1⟩:=eqT c3
  have c3b2:(l0.length == l1.length)=true:=by first|simpa using c3|(simp at c3 ⊢;omega)
  clear c3;have H':=A_ H;clear H;go_enter Tryd.func31,Tryd.ntmps31;go_wp2
  repeat (go_quiet (fail);try go_wp2)
  go_loopg [5] k (fun kq v5 w'=>∃ (x5_1:Int),v5=.int .i64 x5_1∧Aside0 (laws_lpTexts.l0 kq l0 l1 x5_1=some r)∧Aside0 (kq≤k)∧Drawn0 w w')
  case atStart=>exact ⟨(0),zz2,H',⟨Nat.le_refl _⟩,zz16⟩
  case round=>
   clear H';obtain ⟨x5_1,rfl,HA,HK1,⟨m1,rfl⟩⟩:=hrel;cases gk with
   | zero=>exact absurd HA.out (by simp [laws_lpTexts.l0])
   | succ k1=>
    obtain ⟨H⟩:=HA;simp only [laws_lpTexts.l0] at H
    replace H:=iteEd H;rcases H with ⟨c4b0,H⟩|⟨c4b0,H⟩
    ·replace H:=iteNd H
     obtain ⟨c5b0,H⟩:=H;replace H:=iteNd H;obtain ⟨c6b0,H⟩:=H;replace H:=iteEq H;rcases H with ⟨c7b0,c7b1,H⟩|⟨c7b0,c7b1,c7,H⟩
     ·have H':=A_ H
      clear H;obtain ⟨⟨ad258,e258,hx258_0⟩,p258,q258⟩:=atB (Kd.at_string HR0.out x5_1);cases e258
      obtain ⟨⟨ad259,e259,hx259_0⟩,p259,q259⟩:=atB (Kd.at_string HR1.out x5_1);cases e259
      go_wp2
      repeat (go_quiet (fail);try go_wp2)
      go_roundg k1
      case measure=>have:=HK1.out;omega
      case rel=>exact ⟨(wrap64 (x5_1+1)),zz2,H',⟨(zz18 HK1)⟩,zz16⟩
     ·obtain rfl:=sI H
      obtain ⟨⟨ad258,e258,hx258_0⟩,p258,q258⟩:=atB (Kd.at_string HR0.out x5_1);cases e258
      obtain ⟨⟨ad259,e259,hx259_0⟩,p259,q259⟩:=atB (Kd.at_string HR1.out x5_1);cases e259
      go_wp2
      repeat (go_quiet (fail);try go_wp2)
      go_ret
      exact ⟨zz2,zz16⟩
    ·obtain rfl:=sI H
     go_wp2
     repeat (go_quiet (fail);try go_wp2)
     go_ret
     exact ⟨zz2,zz16⟩
 ·obtain ⟨c3b0,c3b1⟩:=eqF c3
  have c3b2:(l0.length == l1.length)=false:=by first|simpa using c3|(simp at c3 ⊢;omega)
  obtain rfl:=sI H;go_enter Tryd.func31,Tryd.ntmps31;go_wp2
  repeat (go_quiet (fail);try go_wp2)
  go_ret
  exact ⟨zz2,zz16⟩
end Go.Proofs.YtfpngfkepeoboaaDoor.P
end
section
namespace Go.Proofs.YtfpngfkepeoboaaDoor.P
open Go.RowKit Go.Proofs.YtfpngfkepeoboaaDoorW.PrintWords Go.Proofs.YtfpngfkepeoboaaDoorW.PrintLast Go.Proofs.YtfpngfkepeoboaaDoorW.PrintMore
attribute [local go_sem] max2_int min2_int max_two min_two max_three min_three max_four min_four
set_option linter.unusedVariables false
set_option linter.unusedSimpArgs false
theorem eqA51 (d:Nat) (w:World) (x0 y0:Bool) (x1 y1:ByteArray) :
  (Op.equalIn (d+2) 51 (.agg #[.bool x0,.string x1]) (.agg #[.bool y0,.string y1])).run Tryd.prog w=.ok (x0 == y0 && (x1.toList == y1.toList)) w:=by
 refine eqA_of Tryd.underlying51 (by kernel_rfl) ?_
 refine eqf_cons (by rfl) (by go_simp;rfl) (by go_simp;rfl) (by go_simp) ?_
 exact eqf_last (by rfl) (by go_simp;rfl) (by go_simp;rfl) (by go_simp)
end Go.Proofs.YtfpngfkepeoboaaDoor.P
end
section
namespace Go.Proofs.YtfpngfkepeoboaaDoor.P
open Go.RowKit Go.Proofs.YtfpngfkepeoboaaDoorW.PrintWords Go.Proofs.YtfpngfkepeoboaaDoorW.PrintLast Go.Proofs.YtfpngfkepeoboaaDoorW.PrintMore
attribute [local go_sem] max2_int min2_int max_two min_two max_three min_three max_four min_four
set_option linter.unusedVariables false
set_option linter.unusedSimpArgs false
set_option maxHeartbeats 8000000
set_option maxRecDepth 100000
def impl_allSmallLetters.l0:Nat→ByteArray→Int→Option (Bool)
 | 0,_,_=>none
 | k+1,x0,x3=>if x3 < (x0.size:Int) then (if 0≤x3 then (if (bt x0 x3) < 97 then (some false) else (if (bt x0 x3) > 122 then (some false) else (impl_allSmallLetters.l0 k x0 (wrap64 (x3+1))))) else (none)) else (some true)
def impl_allSmallLetters.f (k:Nat) (a0:ByteArray):Option (Bool):=impl_allSmallLetters.l0 k a0 0
theorem impl_allSmallLetters.mono_l:∀ k,(∀ y0 y1,LeO (impl_allSmallLetters.l0 k y0 y1) (impl_allSmallLetters.l0 (k+1) y0 y1))
 | 0=>by intros;intro r h;simp [impl_allSmallLetters.l0] at h
 | k+1=>by
  have ih0:=impl_allSmallLetters.mono_l k;intros;unfold impl_allSmallLetters.l0;repeat' first|(with_reducible first|exact ih0 _ _|exact LeO.refl _|exact LeO.none _|refine LeO.ite ?_ ?_|refine LeO.bind ?_ (fun _=>?_))|exact LeO.none _|refine LeO.ite ?_ ?_|refine LeO.bind ?_ (fun _=>?_)
theorem impl_allSmallLetters.mono:∀ a0 k,LeO (impl_allSmallLetters.f k a0) (impl_allSmallLetters.f (k+1) a0):=by
 intro a0 k;have ih0:=impl_allSmallLetters.mono_l k;unfold impl_allSmallLetters.f
 repeat' first|(with_reducible first|exact ih0 _ _|exact LeO.refl _|exact LeO.none _|refine LeO.ite ?_ ?_|refine LeO.bind ?_ (fun _=>?_))|exact LeO.none _|refine LeO.ite ?_ ?_|refine LeO.bind ?_ (fun _=>?_)
theorem impl_allSmallLetters.calls (k:Nat) (a0:ByteArray) (r:Bool) (w:World) (h:impl_allSmallLetters.f k a0=some r) :
  Calls Tryd.prog 52 #[.string a0] w fun e w'=>e=.returned (.bool r)∧Drawn0 w w':=by
 unfold impl_allSmallLetters.f at h
 have H:=h;clear h;have H':=A_ H;clear H;go_enter Tryd.func52,Tryd.ntmps52;go_wp2
 go_loopg [3] k (fun kq v3 w'=>∃ (x3_1:Int),v3=.int .i64 x3_1∧Aside0 (impl_allSmallLetters.l0 kq a0 x3_1=some r)∧Aside0 (kq≤k)∧Drawn0 w w')
 case atStart=>exact ⟨(0),zz2,H',⟨Nat.le_refl _⟩,zz16⟩
 case round=>
  clear H';obtain ⟨x3_1,rfl,HA,HK1,⟨m1,rfl⟩⟩:=hrel;cases gk with
  | zero=>exact absurd HA.out (by simp [impl_allSmallLetters.l0])
  | succ k1=>
   obtain ⟨H⟩:=HA;simp only [impl_allSmallLetters.l0] at H
   replace H:=iteEd H;rcases H with ⟨c2b0,H⟩|⟨c2b0,H⟩
   ·replace H:=iteNd H
    obtain ⟨c3b0,H⟩:=H;replace H:=iteEd H;rcases H with ⟨c5b0,H⟩|⟨c5b0,H⟩
    ·obtain rfl:=sI H
     have p4:0≤(x3_1:Int):=ofD;have q4:x3_1 < (a0.size:Int):=ofD;have hx4:=bt_at a0 x3_1;replace p4:=eq_true p4;replace q4:=eq_true q4;go_wp2
     go_ret
     exact ⟨zz2,zz16⟩
    ·replace H:=iteEg H
     rcases H with ⟨c7b0,H⟩|⟨c7b0,H⟩
     ·obtain rfl:=sI H
      have p4:0≤(x3_1:Int):=ofD;have q4:x3_1 < (a0.size:Int):=ofD;have hx4:=bt_at a0 x3_1;replace p4:=eq_true p4;replace q4:=eq_true q4;have p6:0≤(x3_1:Int):=ofD;have q6:x3_1 < (a0.size:Int):=ofD;have hx6:=bt_at a0 x3_1;replace p6:=eq_true p6;replace q6:=eq_true q6;go_wp2
      go_ret
      exact ⟨zz2,zz16⟩
     ·have H':=A_ H
      clear H;have p4:0≤(x3_1:Int):=ofD;have q4:x3_1 < (a0.size:Int):=ofD;have hx4:=bt_at a0 x3_1;replace p4:=eq_true p4;replace q4:=eq_true q4;have p6:0≤(x3_1:Int):=ofD;have q6:x3_1 < (a0.size:Int):=ofD;have hx6:=bt_at a0 x3_1;replace p6:=eq_true p6;replace q6:=eq_true q6;go_wp2
      go_roundg k1
      case measure=>have:=HK1.out;omega
      case rel=>exact ⟨(wrap64 (x3_1+1)),zz2,H',⟨(zz18 HK1)⟩,zz16⟩
   ·obtain rfl:=sI H
    go_wp2
    go_ret
    exact ⟨zz2,zz16⟩
def impl_readWait.l0:Nat→ByteArray→Int→Int→Option (Int)
 | 0,_,_,_=>none
 | k+1,x0,x3,x4=>if x4 < (x0.size:Int) then (if 0≤x4 then (if (bt x0 x4) < 48 then (some 0) else (if (bt x0 x4) > 57 then (some 0) else (impl_readWait.l0 k x0 (mn (wrap64 ((wrap64 (x3 * 10))+(((bt x0 x4) - 48) % 256))) 20) (wrap64 (x4+1))))) else (none)) else (some x3)
def impl_readWait.f (k:Nat) (a0:ByteArray):Option (Int):=impl_readWait.l0 k a0 0 0
theorem impl_readWait.mono_l:∀ k,(∀ y0 y1 y2,LeO (impl_readWait.l0 k y0 y1 y2) (impl_readWait.l0 (k+1) y0 y1 y2))
 | 0=>by intros;intro r h;simp [impl_readWait.l0] at h
 | k+1=>by
  have ih0:=impl_readWait.mono_l k;intros;unfold impl_readWait.l0;repeat' first|(with_reducible first|exact ih0 _ _ _|exact LeO.refl _|exact LeO.none _|refine LeO.ite ?_ ?_|refine LeO.bind ?_ (fun _=>?_))|exact LeO.none _|refine LeO.ite ?_ ?_|refine LeO.bind ?_ (fun _=>?_)
theorem impl_readWait.mono:∀ a0 k,LeO (impl_readWait.f k a0) (impl_readWait.f (k+1) a0):=by
 intro a0 k;have ih0:=impl_readWait.mono_l k;unfold impl_readWait.f
 repeat' first|(with_reducible first|exact ih0 _ _ _|exact LeO.refl _|exact LeO.none _|refine LeO.ite ?_ ?_|refine LeO.bind ?_ (fun _=>?_))|exact LeO.none _|refine LeO.ite ?_ ?_|refine LeO.bind ?_ (fun _=>?_)
theorem impl_readWait.calls (k:Nat) (a0:ByteArray) (r:Int) (w:World) (h:impl_readWait.f k a0=some r) :
  Calls Tryd.prog 37 #[.string a0] w fun e w'=>e=.returned (.int .i64 r)∧Below w.heap.size w w':=by
 have HB:=A_ (Below.refl w.heap.size w);unfold impl_readWait.f at h
 have H:=h;clear h;have H':=A_ H;clear H;go_enter Tryd.func37,Tryd.ntmps37;go_wp2
 go_loopg [3,4] k (fun kq v3 v4 w'=>∃ (x3_1:Int) (x4_1:Int),v3=.int .i64 x3_1∧v4=.int .i64 x4_1∧Aside0 (impl_readWait.l0 kq a0 x3_1 x4_1=some r)∧Aside0 (kq≤k)∧Aside0 (Below w.heap.size w w'))
 case atStart=>exact ⟨(0),(0),zz2,zz2,H',⟨Nat.le_refl _⟩,⟨(zz12 HB)⟩⟩
 case round=>
  clear H';obtain ⟨x3_1,x4_1,rfl,rfl,HA,HK1,HB⟩:=hrel;cases gk with
  | zero=>exact absurd HA.out (by simp [impl_readWait.l0])
  | succ k1=>
   obtain ⟨H⟩:=HA;simp only [impl_readWait.l0] at H
   replace H:=iteEd H;rcases H with ⟨c2b0,H⟩|⟨c2b0,H⟩
   ·replace H:=iteNd H
    obtain ⟨c3b0,H⟩:=H;replace H:=iteEd H;rcases H with ⟨c5b0,H⟩|⟨c5b0,H⟩
    ·obtain rfl:=sI H
     have p4:0≤(x4_1:Int):=ofD;have q4:x4_1 < (a0.size:Int):=ofD;have hx4:=bt_at a0 x4_1;replace p4:=eq_true p4;replace q4:=eq_true q4;go_wp2
     go_ret
     exact ⟨zz8,(zz12 HB)⟩
    ·replace H:=iteEg H
     rcases H with ⟨c7b0,H⟩|⟨c7b0,H⟩
     ·obtain rfl:=sI H
      have p4:0≤(x4_1:Int):=ofD;have q4:x4_1 < (a0.size:Int):=ofD;have hx4:=bt_at a0 x4_1;replace p4:=eq_true p4;replace q4:=eq_true q4;have p6:0≤(x4_1:Int):=ofD;have q6:x4_1 < (a0.size:Int):=ofD;have hx6:=bt_at a0 x4_1;replace p6:=eq_true p6;replace q6:=eq_true q6;go_wp2
      go_ret
      exact ⟨zz8,(zz12 HB)⟩
     ·obtain ⟨ji9,hji9⟩:∃ j_:Int,(mn (wrap64 ((wrap64 (x3_1 * 10))+(((bt a0 x4_1) - 48) % 256))) 20)=j_:=⟨_,rfl⟩
      (first|rw [hji9] at H|simp only [hji9] at H)
      have hji9_:(if 20 < (wrap64 ((wrap64 (x3_1 * 10))+(((bt a0 x4_1) - 48) % 256))) then 20 else (wrap64 ((wrap64 (x3_1 * 10))+(((bt a0 x4_1) - 48) % 256))))=ji9:=hji9;have H':=A_ H;clear H;have p4:0≤(x4_1:Int):=ofD;have q4:x4_1 < (a0.size:Int):=ofD;have hx4:=bt_at a0 x4_1;replace p4:=eq_true p4;replace q4:=eq_true q4;have p6:0≤(x4_1:Int):=ofD;have q6:x4_1 < (a0.size:Int):=ofD;have hx6:=bt_at a0 x4_1;replace p6:=eq_true p6;replace q6:=eq_true q6;have p8:0≤(x4_1:Int):=ofD;have q8:x4_1 < (a0.size:Int):=ofD;have hx8:=bt_at a0 x4_1;replace p8:=eq_true p8;replace q8:=eq_true q8;go_wp2
      go_roundg k1
      case measure=>have:=HK1.out;omega
      case rel=>exact ⟨(ji9),(wrap64 (x4_1+1)),(by first|rfl|(simp only [i64_w,i32_w];done)|(simp only [aid_isEmpty,aid_isEmpty2];done)|(simp;done)|((simp only [← hji9] <;> (first|rfl|simp));done)|(simp [*];done)),zz2,H',⟨(zz18 HK1)⟩,⟨(zz12 HB)⟩⟩
   ·obtain rfl:=sI H
    go_wp2
    go_ret
    exact ⟨zz8,(zz12 HB)⟩
mutual
def impl_groupLines.l0:Nat→List Ln.NL→List ByteArray→Int→Int→List ByteArray→List (S51)→Int→Option (List Ln.NL)
 | 0,_,_,_,_,_,_,_=>none
 | k+1,x3,x9,x10,x11,x213000,x213001,x213002=>if x11 < x10 then (if 0≤x11 then (if x11 < (x9.length:Int) then (if x3.length < 8796093022208 then (impl_groupLines.l0 k (x3++[(Ln.NL.caller (rdOf ByteArray.empty x9 x11))]) x9 x10 (wrap64 (x11+1)) x213000 x213001 x213002) else (none)) else (none)) else (none)) else (impl_groupLines.l1 k x3 x213001 (x213001.length:Int) 0 x213000 x213001 x213002)
def impl_groupLines.l1:Nat→List Ln.NL→List (S51)→Int→Int→List ByteArray→List (S51)→Int→Option (List Ln.NL)
 | 0,_,_,_,_,_,_,_=>none
 | k+1,x3,x23,x24,x25,x213000,x213001,x213002=>if x25 < x24 then (if 0≤x25 then (if x25 < (x23.length:Int) then (if x3.length < 8796093022208 then (impl_groupLines.l1 k (x3++[(Ln.NL.rule ((rd_T51 x23 x25).f0) ((rd_T51 x23 x25).f1))]) x23 x24 (wrap64 (x25+1)) x213000 x213001 x213002) else (none)) else (none)) else (none)) else (if x213002=0 then (some x3) else (if x3.length < 8796093022208 then (some (x3++[(Ln.NL.wait x213002)])) else (none)))
end
def impl_groupLines.f (k:Nat) (l0_0:List ByteArray) (l0_1:List (S51)) (a0_2:Int):Option (List Ln.NL):=impl_groupLines.l0 k ([]:List Ln.NL) l0_0 (l0_0.length:Int) 0 l0_0 l0_1 a0_2
theorem impl_groupLines.calls (k:Nat) (A0_0:Option Addr) (c0_0:Nat) (l0_0:List ByteArray) (A0_1:Option Addr) (c0_1:Nat) (l0_1:List (S51)) (a0_2:Int) (r:List Ln.NL) (w:World) (hr0_0:Kd.C Kd.string w A0_0 l0_0.length l0_0) (hc0_0:l0_0.length≤c0_0) (hr0_1:Kd.C k51 w A0_1 l0_1.length l0_1) (hc0_1:l0_1.length≤c0_1) (h:impl_groupLines.f k l0_0 l0_1 a0_2=some r) :
  Calls Tryd.prog 14 #[.agg #[.slice A0_0 l0_0.length c0_0,.slice A0_1 l0_1.length c0_1,.int .i64 a0_2]] w fun e w'=>∃ v0_:Value,e=.returned (v0_)∧Kd.R Kd.nl 44 w' w.heap.size (fun _=>True) v0_ r∧Below w.heap.size w w':=by
 have hu40:=Tryd.underlying40;have hu69:=Tryd.underlying69;have hu51:=Tryd.underlying51;have hu71:=Tryd.underlying71;have hu73:=Tryd.underlying73;have HR0_0:=A_ hr0_0;have HC0_0:=A_ hc0_0;clear hr0_0 hc0_0;have HR0_1:=A_ hr0_1;have HC0_1:=A_ hc0_1;clear hr0_1 hc0_1;have HB:=A_ (Below.refl w.heap.size w);unfold impl_groupLines.f at h
 have H:=h;clear h;have H':=A_ H;clear H;go_enter Tryd.func14,Tryd.ntmps14;go_wp2_with (first|(refine boxF 1 #[.slice A0_0 l0_0.length c0_0,.slice A0_1 l0_1.length c0_1,.int .i64 a0_2] 40 ?_;intro gb212 hg w2 BK212 hb;have GE212:=geB hg (zz12 HB);replace HB:=A_ (bS (zz12 HB) hb);clear hb hg;obtain ⟨_,_,_,_,_,_⟩:=cf3 BK212))
 go_loopg [3,11] k (fun kq v3 v11 w'=>∃ (x3_1:List Ln.NL) (x11_1:Int),v11=.int .i64 x11_1∧Aside0 (impl_groupLines.l0 kq x3_1 l0_0 (l0_0.length:Int) x11_1 l0_0 l0_1 a0_2=some r)∧Aside0 (kq≤k)∧Aside0 (Kd.R Kd.nl 44 w' w.heap.size (fun _=>True) v3 x3_1)∧Aside0 (w'.heap[gb212]?=some (.cells #[(.slice A0_0 l0_0.length c0_0),(.slice A0_1 l0_1.length c0_1),.int .i64 a0_2] 40 (0,0)))∧Aside0 (Below w.heap.size w w'))
 case atStart=>exact ⟨(([]:List Ln.NL)),(0),zz2,H',⟨Nat.le_refl _⟩,⟨zz22⟩,⟨(zz23 BK212)⟩,⟨(zz24 HB GE212)⟩⟩
 case round=>
  clear H';obtain ⟨x3_1,x11_1,rfl,HA,HK1,HO_3,BK212,HB⟩:=hrel;cases gk with
  | zero=>exact absurd HA.out (by simp [impl_groupLines.l0])
  | succ k1=>
   obtain ⟨H⟩:=HA;simp only [impl_groupLines.l0] at H
   replace H:=iteEd H;rcases H with ⟨c4b0,H⟩|⟨c4b0,H⟩
   ·replace H:=iteNd H
    obtain ⟨c5b0,H⟩:=H;replace H:=iteNd H;obtain ⟨c6b0,H⟩:=H;replace H:=iteN H;obtain ⟨c7,H⟩:=H;have LMc7:=A_ c7;clear c7;obtain ⟨y214,Ny214⟩:=toY (x3_1++[(Ln.NL.caller (rdOf ByteArray.empty l0_0 x11_1))]);(first|with_reducible replace H:=bindZ Ny214 H|rw [← Ny214.out] at H|skip)
    have H':=A_ H;clear H;obtain ⟨⟨ad213,e213,hx213_0⟩,p213,q213⟩:=atB (Kd.at_string HR0_0.out x11_1);cases e213
    replace hx213_0:=cbl HB hx213_0;go_wp2_with (first|((with_reducible refine gate_builtin (b:=.append) (xs:=#[.tmp 15,.tmp 19]) rfl ?_);at_builtin;refine Kd.R_append Kd.nl (w0:=w) w.heap.size rfl (.tmp 15) (.tmp 19) 41 44 .nilIface 16 rfl Tryd.underlying41 info44 rfl (by decide) (by omega) u3 x3_1 (Ln.NL.caller (rdOf ByteArray.empty l0_0 x11_1)) [.iface 69 (.agg #[.string (rdOf ByteArray.empty l0_0 x11_1)])] (fun _=>True) (fun _=>False) rfl rfl ?aP (fun _ hk=>hk.elim) ?aF ?aO ?aB ?aS ?aL ?_;(case aP=>exact rfl);(case aB=>exact (zz24 HB GE212));(case aF=>exact (fun _ _=>trivial));(case aO=>exact (zz15 HO_3));(case aS=>exact (below_size (zz24 HB GE212)));(case aL=>exact (zz18 LMc7));intro v215 w8 ho hb hg hat;rw [← Ny214.out] at ho;replace BK212:=A_ (blk_grown (zz23 BK212) hg (Kd.R_ne HO_3.out BK212.out (by decide)));replace HB:=A_ (hb);have HO216:=A_ (ho);clear HO_3;clear ho hb hg hat))
    go_roundg k1
    case measure=>have:=HK1.out;omega
    case rel=>exact ⟨(y214),(wrap64 (x11_1+1)),zz2,H',⟨(zz18 HK1)⟩,⟨(zz15 HO216)⟩,⟨(zz23 BK212)⟩,⟨(zz24 HB GE212)⟩⟩
   ·have H':=A_ H
    clear H;obtain ⟨_,_,_,_,_,_⟩:=cf3 BK212;go_wp2
    go_loopg [3,25] k1 (fun kq v3 v25 w'=>∃ (x3_2:List Ln.NL) (x25_2:Int),v25=.int .i64 x25_2∧Aside0 (impl_groupLines.l1 kq x3_2 l0_1 (l0_1.length:Int) x25_2 l0_0 l0_1 a0_2=some r)∧Aside0 (kq≤k1)∧Aside0 (Kd.R Kd.nl 44 w' w.heap.size (fun _=>True) v3 x3_2)∧Aside0 (w'.heap[gb212]?=some (.cells #[(.slice A0_0 l0_0.length c0_0),(.slice A0_1 l0_1.length c0_1),.int .i64 a0_2] 40 (0,0)))∧Aside0 (Below w.heap.size w w'))
    case atStart=>exact ⟨(x3_1),(0),zz2,H',⟨Nat.le_refl _⟩,⟨(zz15 HO_3)⟩,⟨(zz23 BK212)⟩,⟨(zz24 HB GE212)⟩⟩
    case round=>
     clear H';obtain ⟨x3_2,x25_2,rfl,HA,HK2,HO_3,BK212,HB⟩:=hrel;cases gk with
     | zero=>exact absurd HA.out (by simp [impl_groupLines.l1])
     | succ k2=>
      obtain ⟨H⟩:=HA;simp only [impl_groupLines.l1] at H
      replace H:=iteEd H;rcases H with ⟨c10b0,H⟩|⟨c10b0,H⟩
      ·replace H:=iteNd H
       obtain ⟨c11b0,H⟩:=H;replace H:=iteNd H;obtain ⟨c12b0,H⟩:=H;replace H:=iteN H;obtain ⟨c13,H⟩:=H;have LMc13:=A_ c13;clear c13;obtain ⟨y219,Ny219⟩:=toY (x3_2++[(Ln.NL.rule ((rd_T51 l0_1 x25_2).f0) ((rd_T51 l0_1 x25_2).f1))]);(first|with_reducible replace H:=bindZ Ny219 H|rw [← Ny219.out] at H|skip)
       have H':=A_ H;clear H;obtain ⟨⟨ad217,e217,hx217_0,hx217_1⟩,p217,q217⟩:=atB (at_T51 HR0_1.out x25_2);cases e217
       obtain ⟨hx217_0,hx217_1⟩:=cb2 HB hx217_0 hx217_1;go_wp2_with (first|(refine boxF 7 #[.bool false,.string (⟨#[]⟩:ByteArray)] 51 ?_;intro gb218 hg w14 BK218 hb;replace HO_3:=A_ (rB (zz15 HO_3) hb);have GE218:=geB hg (zz24 HB GE212);replace HB:=A_ (bS (zz24 HB GE212) hb);have NB212_218:=A_ ((by rw [hg];exact Nat.ne_of_lt (blk_lt (zz23 BK212)):gb212≠gb218));have NB218_212:=A_ ((by rw [hg];exact Nat.ne_of_gt (blk_lt (zz23 BK212)):gb218≠gb212));replace BK212:=A_ (bB (zz23 BK212) hb);clear hb hg;have hnb15:=NB218_212.out;have hnc15:=NB212_218.out;obtain ⟨_,_,_,_⟩:=cf2 BK218)|((with_reducible refine gate_builtin (b:=.append) (xs:=#[.tmp 29,.tmp 33]) rfl ?_);at_builtin;refine Kd.R_append Kd.nl (w0:=w) w.heap.size rfl (.tmp 29) (.tmp 33) 41 44 .nilIface 16 rfl Tryd.underlying41 info44 rfl (by decide) (by omega) u3 x3_2 (Ln.NL.rule ((rd_T51 l0_1 x25_2).f0) ((rd_T51 l0_1 x25_2).f1)) [.iface 71 (.agg #[.bool ((rd_T51 l0_1 x25_2).f0),.string ((rd_T51 l0_1 x25_2).f1)])] (fun _=>True) (fun _=>False) rfl zz13 ?aP (fun _ hk=>hk.elim) ?aF ?aO ?aB ?aS ?aL ?_;(case aP=>exact rfl);(case aB=>exact (zz27 HB GE212 GE218));(case aF=>exact (fun _ _=>trivial));(case aO=>exact (zz28 (rt HO_3 BK218)));(case aS=>exact (below_size (zz27 HB GE212 GE218)));(case aL=>exact (zz18 LMc13));intro v220 w17 ho hb hg hat;rw [← Ny219.out] at ho;replace BK212:=A_ (blk_grown (g:=gb212) (o:=.cells #[.slice A0_0 l0_0.length c0_0,.slice (some ad217) l0_1.length c0_1,.int .i64 a0_2] 40 (0,0)) (by (repeat (first|(with_reducible first|exact BK212.out|refine blk_drewN ?_ _|refine blk_drew ?_|refine blk_alloc ?_ _|apply blk_put|apply blk_far)|exact BK212.out));all_goals first|rfl|exact NB212_218.out) hg (Kd.R_ne HO_3.out BK212.out (by decide)));replace BK218:=A_ (blk_grown (g:=gb218) (o:=.cells #[.bool ((rd_T51 l0_1 x25_2).f0),.string ((rd_T51 l0_1 x25_2).f1)] 51 (0,0)) (zz30 BK218) hg (Kd.R_ne HO_3.out BK218.out (by decide)));replace HB:=A_ (hb);have HO221:=A_ (ho);clear HO_3;clear ho hb hg hat))
       go_roundg k2
       case measure=>have:=HK1.out;have:=HK2.out;omega
       case rel=>exact ⟨(y219),(wrap64 (x25_2+1)),zz2,H',⟨(zz31 HK1 HK2)⟩,⟨(zz15 HO221)⟩,⟨(zz23 BK212)⟩,⟨(zz27 HB GE212 GE218)⟩⟩
      ·replace H:=iteEq H
       rcases H with ⟨c18b0,c18b1,H⟩|⟨c18b0,c18b1,c18,H⟩
       ·obtain rfl:=sI H
        obtain ⟨_,_,_,_,_,_⟩:=cf3 BK212;go_wp2
        go_ret
        exact ⟨_,zz8,(zz15 HO_3),(zz24 HB GE212)⟩
       ·replace H:=iteE H
        rcases H with ⟨c20,H⟩|⟨c20,H⟩
        ·have LMc20:=A_ c20
         clear c20;obtain ⟨y222,Ny222⟩:=toY (x3_2++[(Ln.NL.wait a0_2)]);(first|with_reducible replace H:=bindZ Ny222 H|rw [← Ny222.out] at H|skip)
         obtain rfl:=sI H;obtain ⟨_,_,_,_,_,_⟩:=cf3 BK212;go_wp2_with (first|((with_reducible refine gate_builtin (b:=.append) (xs:=#[.tmp 39,.tmp 44]) rfl ?_);at_builtin;refine Kd.R_append Kd.nl (w0:=w) w.heap.size rfl (.tmp 39) (.tmp 44) 41 44 .nilIface 16 rfl Tryd.underlying41 info44 rfl (by decide) (by omega) u3 x3_2 (Ln.NL.wait a0_2) [.iface 73 (.agg #[.int .i64 a0_2])] (fun _=>True) (fun _=>False) rfl rfl ?aP (fun _ hk=>hk.elim) ?aF ?aO ?aB ?aS ?aL ?_;(case aP=>exact rfl);(case aB=>exact (zz24 HB GE212));(case aF=>exact (fun _ _=>trivial));(case aO=>exact (zz15 HO_3));(case aS=>exact (below_size (zz24 HB GE212)));(case aL=>exact (zz18 LMc20));intro v223 w22 ho hb hg hat;rw [← Ny222.out] at ho;replace BK212:=A_ (blk_grown (zz23 BK212) hg (Kd.R_ne HO_3.out BK212.out (by decide)));replace HB:=A_ (hb);have HO224:=A_ (ho);clear HO_3;clear ho hb hg hat))
         go_ret
         exact ⟨_,zz8,(zz15 HO224),(zz24 HB GE212)⟩
        ·exact absurd H (by simp)
def spec_l6Open.f (l0:List Int):Option (List Int×Int):=if (l0.length:Int) > 2000 then (if 2000≤(l0.length:Int) then (some (l0.take 2000,0)) else (none)) else (some (l0,0))
theorem spec_l6Open.calls (A0:Option Addr) (c0:Nat) (l0:List Int) (r1:List Int) (r2:Int) (w0 w:World) (hB:Below w0.heap.size w0 w) (hr0:Kd.C (Kd.int .u8) w0 A0 l0.length l0) (hc0:l0.length≤c0) (h:spec_l6Open.f l0=some (r1,r2)) :
  Calls Tryd.prog 12 #[.slice A0 l0.length c0] w fun e w'=>∃ g_:Nat,e=.returned (.pointer (some ⟨g_,0,none⟩))∧IsS66 w0 w' g_ r1 r2∧Below w0.heap.size w0 w'∧Below w.heap.size w w':=by
 have hu66:=Tryd.underlying66;have HR0:=A_ hr0;have HC0:=A_ hc0;clear hr0 hc0;have HBW:=A_ (Below.refl w.heap.size w);have HW0:=A_ hB.size;have HB:=A_ hB;clear hB;unfold spec_l6Open.f at h
 have H:=h;clear h;replace H:=iteE H;rcases H with ⟨c2,H⟩|⟨c2,H⟩
 ·have c2b0:=gtT c2
  have c2b1:decide (2000 < l0.length)=true:=dT (by omega);clear c2;replace H:=iteN H;obtain ⟨c3,H⟩:=H;have c3b0:=eq_true c3;have c3b1:=dT c3;clear c3;simp only [Option.some.injEq,Prod.mk.injEq] at H
  obtain ⟨rfl,rfl⟩:=H;obtain ⟨i04,hi04,_,hsz4,_⟩:=info_parts info5;obtain ⟨hcut4,hA4,hC4⟩:=print_take_of (P:=Tryd.prog) (Value.int .u8) 0 22 5 .i64 Tryd.underlying22 hi04 hsz4 A0 c0 l0 2000 (by omega) ofD HC0.out;have HR185:=A_ (Kd.C_of_reads (h1:=fun _=>rfl) (hA4 _ (Kd.reads_of_C HR0.out)));have HC185:=A_ hC4;clear hA4 hC4 hi04 hsz4;go_enter Tryd.func12,Tryd.ntmps12;go_wp2_with (first|(refine boxF 10 #[.slice A0 (l0.take 2000).length c0,.int .i64 0] 66 ?_;intro gb186 hg w5 BK186 hb;replace HB:=A_ (bS (zz12 HB) hb);have GW186:=A_ ((by rw [hg];exact (below_size (zz12 HBW)):w.heap.size≤gb186));have GE186:=A_ ((Nat.le_trans HW0.out (by rw [hg];exact (below_size (zz12 HBW)):w.heap.size≤gb186):w0.heap.size≤gb186));replace HBW:=A_ (bS HBW.out hb);clear hb hg))
  go_ret
  exact ⟨_,rfl,(show IsS66 w0 _ gb186 (l0.take 2000) 0 from ⟨_,_,(zz23 BK186),GE186.out,HR185.out⟩),(zz24 HB GE186),(zz24 HBW GW186)⟩
 ·have c2b0:=gtF c2
  have c2b1:decide (2000 < l0.length)=false:=dF (by omega);clear c2;simp only [Option.some.injEq,Prod.mk.injEq] at H
  obtain ⟨rfl,rfl⟩:=H;go_enter Tryd.func12,Tryd.ntmps12;go_wp2_with (first|(refine boxF 10 #[.slice A0 l0.length c0,.int .i64 0] 66 ?_;intro gb187 hg w6 BK187 hb;replace HB:=A_ (bS (zz12 HB) hb);have GW187:=A_ ((by rw [hg];exact (below_size (zz12 HBW)):w.heap.size≤gb187));have GE187:=A_ ((Nat.le_trans HW0.out (by rw [hg];exact (below_size (zz12 HBW)):w.heap.size≤gb187):w0.heap.size≤gb187));replace HBW:=A_ (bS HBW.out hb);clear hb hg))
  go_ret
  exact ⟨_,rfl,(show IsS66 w0 _ gb187 l0 0 from ⟨_,_,(zz23 BK187),GE187.out,HR0.out⟩),(zz24 HB GE187),(zz24 HBW GW187)⟩
def spec_l6In.f (a0:Int) (a1:Int) (a2:Int):Option (Bool):=if a0 ≥ a1 then (some (decide (a0≤a2))) else (some false)
theorem spec_l6In.calls (a0:Int) (a1:Int) (a2:Int) (r:Bool) (w:World) (h:spec_l6In.f a0 a1 a2=some r) :
  Calls Tryd.prog 18 #[.int .i64 a0,.int .i64 a1,.int .i64 a2] w fun e w'=>e=.returned (.bool r)∧Drawn0 w w':=by
 unfold spec_l6In.f at h
 have H:=h;clear h;replace H:=iteEe H;rcases H with ⟨c4b0,H⟩|⟨c4b0,H⟩
 ·obtain rfl:=sI H
  go_enter Tryd.func18,Tryd.ntmps18;go_wp2
  go_ret
  exact ⟨zz2,zz16⟩
 ·obtain rfl:=sI H
  go_enter Tryd.func18,Tryd.ntmps18;go_wp2
  go_ret
  exact ⟨zz2,zz16⟩
def spec_l1Plain.f (a0:Int):Option (Bool):=if a0 ≥ 97 then (if a0≤122 then (some true) else (if a0 ≥ 48 then (if a0≤57 then (some true) else (if a0=46 then (some true) else (some (a0 == 45)))) else (if a0=46 then (some true) else (some (a0 == 45))))) else (if a0 ≥ 48 then (if a0≤57 then (some true) else (if a0=46 then (some true) else (some (a0 == 45)))) else (if a0=46 then (some true) else (some (a0 == 45))))
theorem spec_l1Plain.calls (a0:Int) (r:Bool) (w:World) (h:spec_l1Plain.f a0=some r) :
  Calls Tryd.prog 30 #[.int .u8 a0] w fun e w'=>e=.returned (.bool r)∧Drawn0 w w':=by
 unfold spec_l1Plain.f at h
 have H:=h;clear h;replace H:=iteEe H;rcases H with ⟨c2b0,H⟩|⟨c2b0,H⟩
 ·replace H:=iteEd H
  rcases H with ⟨c3b0,H⟩|⟨c3b0,H⟩
  ·obtain rfl:=sI H
   go_enter Tryd.func30,Tryd.ntmps30;go_wp2
   go_ret
   exact ⟨zz2,zz16⟩
  ·replace H:=iteEe H
   rcases H with ⟨c4b0,H⟩|⟨c4b0,H⟩
   ·replace H:=iteEd H
    rcases H with ⟨c5b0,H⟩|⟨c5b0,H⟩
    ·obtain rfl:=sI H
     go_enter Tryd.func30,Tryd.ntmps30;go_wp2
     go_ret
     exact ⟨zz2,zz16⟩
    ·replace H:=iteEq H
     rcases H with ⟨c6b0,c6b1,H⟩|⟨c6b0,c6b1,c6,H⟩
     ·obtain rfl:=sI H
      go_enter Tryd.func30,Tryd.ntmps30;go_wp2
      go_ret
      exact ⟨zz2,zz16⟩
     ·obtain rfl:=sI H
      go_enter Tryd.func30,Tryd.ntmps30;go_wp2
      go_ret
      exact ⟨zz2,zz16⟩
   ·replace H:=iteEq H
    rcases H with ⟨c7b0,c7b1,H⟩|⟨c7b0,c7b1,c7,H⟩
    ·obtain rfl:=sI H
     go_enter Tryd.func30,Tryd.ntmps30;go_wp2
     go_ret
     exact ⟨zz2,zz16⟩
    ·obtain rfl:=sI H
     go_enter Tryd.func30,Tryd.ntmps30;go_wp2
     go_ret
     exact ⟨zz2,zz16⟩
 ·replace H:=iteEe H
  rcases H with ⟨c8b0,H⟩|⟨c8b0,H⟩
  ·replace H:=iteEd H
   rcases H with ⟨c9b0,H⟩|⟨c9b0,H⟩
   ·obtain rfl:=sI H
    go_enter Tryd.func30,Tryd.ntmps30;go_wp2
    go_ret
    exact ⟨zz2,zz16⟩
   ·replace H:=iteEq H
    rcases H with ⟨c10b0,c10b1,H⟩|⟨c10b0,c10b1,c10,H⟩
    ·obtain rfl:=sI H
     go_enter Tryd.func30,Tryd.ntmps30;go_wp2
     go_ret
     exact ⟨zz2,zz16⟩
    ·obtain rfl:=sI H
     go_enter Tryd.func30,Tryd.ntmps30;go_wp2
     go_ret
     exact ⟨zz2,zz16⟩
  ·replace H:=iteEq H
   rcases H with ⟨c11b0,c11b1,H⟩|⟨c11b0,c11b1,c11,H⟩
   ·obtain rfl:=sI H
    go_enter Tryd.func30,Tryd.ntmps30;go_wp2
    go_ret
    exact ⟨zz2,zz16⟩
   ·obtain rfl:=sI H
    go_enter Tryd.func30,Tryd.ntmps30;go_wp2
    go_ret
    exact ⟨zz2,zz16⟩
def stringslite_HasSuffix.f (a0:ByteArray) (a1:ByteArray):Option (Bool):=if (a0.size:Int) ≥ (a1.size:Int) then (if 0≤(wrap64 ((a0.size:Int) - (a1.size:Int))) then (if (wrap64 ((a0.size:Int) - (a1.size:Int)))≤(a0.size:Int) then (some ((a0.extract ((wrap64 ((a0.size:Int) - (a1.size:Int))):Int).toNat a0.size).toList == a1.toList)) else (none)) else (none)) else (some false)
theorem stringslite_HasSuffix.calls (a0:ByteArray) (a1:ByteArray) (r:Bool) (w:World) (h:stringslite_HasSuffix.f a0 a1=some r) :
  Calls Tryd.prog 60 #[.string a0,.string a1] w fun e w'=>e=.returned (.bool r)∧Drawn0 w w':=by
 unfold stringslite_HasSuffix.f at h
 have H:=h;clear h;replace H:=iteE H;rcases H with ⟨c3,H⟩|⟨c3,H⟩
 ·have c3b0:=geT c3
  have c3b1:decide (a1.size≤a0.size)=true:=dT (Int.ofNat_le.mp c3);clear c3;obtain ⟨ji4,hji4⟩:∃ j_:Int,(wrap64 ((a0.size:Int) - (a1.size:Int)))=j_:=⟨_,rfl⟩;(first|rw [hji4] at H|simp only [hji4] at H)
  have hji4w:(IntKind.i64.wrap ((a0.size:Int) - (a1.size:Int)))=ji4:=(i64_w _).trans hji4;replace H:=iteN H;obtain ⟨c5,H⟩:=H;have c5b0:=eq_true c5;have c5b1:=dT c5;clear c5;replace H:=iteN H;obtain ⟨c6,H⟩:=H;have c6b0:=eq_true c6;have c6b1:=dT c6;clear c6;obtain rfl:=sI H;go_enter Tryd.func60,Tryd.ntmps60;go_wp2
  go_ret
  exact ⟨(by first|rfl|(simp only [i64_w,i32_w];done)|(simp only [aid_isEmpty,aid_isEmpty2];done)|(simp;done)|((simp only [← hji4] <;> (first|rfl|simp));done)|(simp [*];done)),zz16⟩
 ·have c3b0:=geF c3
  have c3b1:decide (a1.size≤a0.size)=false:=dF (fun h=>c3 (Int.ofNat_le.mpr h));clear c3;obtain rfl:=sI H;go_enter Tryd.func60,Tryd.ntmps60;go_wp2
  go_ret
  exact ⟨zz2,zz16⟩
def stringslite_TrimSuffix.f (a0:ByteArray) (a1:ByteArray):Option (ByteArray):=(stringslite_HasSuffix.f a0 a1).bind fun t197=>(if t197=true then (if 0≤(wrap64 ((a0.size:Int) - (a1.size:Int))) then (if (wrap64 ((a0.size:Int) - (a1.size:Int)))≤(a0.size:Int) then (some (a0.extract 0 ((wrap64 ((a0.size:Int) - (a1.size:Int))):Int).toNat)) else (none)) else (none)) else (some a0))
theorem stringslite_TrimSuffix.calls (a0:ByteArray) (a1:ByteArray) (r:ByteArray) (w:World) (h:stringslite_TrimSuffix.f a0 a1=some r) :
  Calls Tryd.prog 53 #[.string a0,.string a1] w fun e w'=>e=.returned (.string r)∧Drawn0 w w':=by
 unfold stringslite_TrimSuffix.f at h
 have H:=h;clear h;replace H:=bindA H;obtain ⟨t197,A3,H⟩:=H;have HF4:=A_ H;clear H;go_enter Tryd.func53,Tryd.ntmps53;go_upto_if 7 with (first|(refine gR 60 (some 7) Tryd.func60 (stringslite_HasSuffix.calls a0 a1 t197 _ A3.out) ?_;rintro w' ⟨nd,rfl⟩))
 obtain ⟨H⟩:=HF4;replace H:=iteB H;rcases H with ⟨rfl,H⟩|⟨rfl,H⟩
 ·obtain ⟨ji6,hji6⟩:∃ j_:Int,(wrap64 ((a0.size:Int) - (a1.size:Int)))=j_:=⟨_,rfl⟩
  (first|rw [hji6] at H|simp only [hji6] at H)
  have hji6w:(IntKind.i64.wrap ((a0.size:Int) - (a1.size:Int)))=ji6:=(i64_w _).trans hji6;replace H:=iteN H;obtain ⟨c7,H⟩:=H;have c7b0:=eq_true c7;have c7b1:=dT c7;clear c7;replace H:=iteN H;obtain ⟨c8,H⟩:=H;have c8b0:=eq_true c8;have c8b1:=dT c8;clear c8;obtain rfl:=sI H;go_wp2
  go_ret
  exact ⟨(by first|rfl|(simp only [i64_w,i32_w];done)|(simp only [aid_isEmpty,aid_isEmpty2];done)|(simp;done)|((simp only [← hji6] <;> (first|rfl|simp));done)|(simp [*];done)),zz16⟩
 ·obtain rfl:=sI H
  go_wp2
  go_ret
  exact ⟨zz2,zz16⟩
def strings_TrimSuffix.f (a0:ByteArray) (a1:ByteArray):Option (ByteArray):=(stringslite_TrimSuffix.f a0 a1).bind fun t198=>(some t198)
theorem strings_TrimSuffix.calls (a0:ByteArray) (a1:ByteArray) (r:ByteArray) (w:World) (h:strings_TrimSuffix.f a0 a1=some r) :
  Calls Tryd.prog 46 #[.string a0,.string a1] w fun e w'=>e=.returned (.string r)∧Drawn0 w w':=by
 unfold strings_TrimSuffix.f at h
 have H:=h;clear h;replace H:=bindA H;obtain ⟨t198,A3,H⟩:=H;obtain rfl:=sI H;go_enter Tryd.func46,Tryd.ntmps46;go_wp2_with (first|(refine gR 53 (some 7) Tryd.func53 (stringslite_TrimSuffix.calls a0 a1 t198 _ A3.out) ?_;rintro w' ⟨nd,rfl⟩))
 go_ret
 exact ⟨zz2,zz16⟩
def impl_standsForItself.f (a0:Int):Option (Bool):=if a0 ≥ 97 then (if a0≤122 then (some true) else (if a0 ≥ 48 then (if a0≤57 then (some true) else (if a0=46 then (some true) else (some (a0 == 45)))) else (if a0=46 then (some true) else (some (a0 == 45))))) else (if a0 ≥ 48 then (if a0≤57 then (some true) else (if a0=46 then (some true) else (some (a0 == 45)))) else (if a0=46 then (some true) else (some (a0 == 45))))
theorem impl_standsForItself.calls (a0:Int) (r:Bool) (w:World) (h:impl_standsForItself.f a0=some r) :
  Calls Tryd.prog 54 #[.int .u8 a0] w fun e w'=>e=.returned (.bool r)∧Drawn0 w w':=by
 unfold impl_standsForItself.f at h
 have H:=h;clear h;replace H:=iteEe H;rcases H with ⟨c2b0,H⟩|⟨c2b0,H⟩
 ·replace H:=iteEd H
  rcases H with ⟨c3b0,H⟩|⟨c3b0,H⟩
  ·obtain rfl:=sI H
   go_enter Tryd.func54,Tryd.ntmps54;go_wp2
   go_ret
   exact ⟨zz2,zz16⟩
  ·replace H:=iteEe H
   rcases H with ⟨c4b0,H⟩|⟨c4b0,H⟩
   ·replace H:=iteEd H
    rcases H with ⟨c5b0,H⟩|⟨c5b0,H⟩
    ·obtain rfl:=sI H
     go_enter Tryd.func54,Tryd.ntmps54;go_wp2
     go_ret
     exact ⟨zz2,zz16⟩
    ·replace H:=iteEq H
     rcases H with ⟨c6b0,c6b1,H⟩|⟨c6b0,c6b1,c6,H⟩
     ·obtain rfl:=sI H
      go_enter Tryd.func54,Tryd.ntmps54;go_wp2
      go_ret
      exact ⟨zz2,zz16⟩
     ·obtain rfl:=sI H
      go_enter Tryd.func54,Tryd.ntmps54;go_wp2
      go_ret
      exact ⟨zz2,zz16⟩
   ·replace H:=iteEq H
    rcases H with ⟨c7b0,c7b1,H⟩|⟨c7b0,c7b1,c7,H⟩
    ·obtain rfl:=sI H
     go_enter Tryd.func54,Tryd.ntmps54;go_wp2
     go_ret
     exact ⟨zz2,zz16⟩
    ·obtain rfl:=sI H
     go_enter Tryd.func54,Tryd.ntmps54;go_wp2
     go_ret
     exact ⟨zz2,zz16⟩
 ·replace H:=iteEe H
  rcases H with ⟨c8b0,H⟩|⟨c8b0,H⟩
  ·replace H:=iteEd H
   rcases H with ⟨c9b0,H⟩|⟨c9b0,H⟩
   ·obtain rfl:=sI H
    go_enter Tryd.func54,Tryd.ntmps54;go_wp2
    go_ret
    exact ⟨zz2,zz16⟩
   ·replace H:=iteEq H
    rcases H with ⟨c10b0,c10b1,H⟩|⟨c10b0,c10b1,c10,H⟩
    ·obtain rfl:=sI H
     go_enter Tryd.func54,Tryd.ntmps54;go_wp2
     go_ret
     exact ⟨zz2,zz16⟩
    ·obtain rfl:=sI H
     go_enter Tryd.func54,Tryd.ntmps54;go_wp2
     go_ret
     exact ⟨zz2,zz16⟩
  ·replace H:=iteEq H
   rcases H with ⟨c11b0,c11b1,H⟩|⟨c11b0,c11b1,c11,H⟩
   ·obtain rfl:=sI H
    go_enter Tryd.func54,Tryd.ntmps54;go_wp2
    go_ret
    exact ⟨zz2,zz16⟩
   ·obtain rfl:=sI H
    go_enter Tryd.func54,Tryd.ntmps54;go_wp2
    go_ret
    exact ⟨zz2,zz16⟩
def impl_isPatternByte.f (a0:Int):Option (Bool):=if a0=47 then (some true) else (if a0=42 then (some true) else (if a0=63 then (some true) else (if a0=37 then (some true) else ((impl_standsForItself.f a0).bind fun t199=>(if t199=true then (some true) else (if a0 ≥ 65 then (some (decide (a0≤70))) else (some false)))))))
theorem impl_isPatternByte.calls (a0:Int) (r:Bool) (w:World) (h:impl_isPatternByte.f a0=some r) :
  Calls Tryd.prog 47 #[.int .u8 a0] w fun e w'=>e=.returned (.bool r)∧Drawn0 w w':=by
 unfold impl_isPatternByte.f at h
 have H:=h;clear h;replace H:=iteEq H;rcases H with ⟨c2b0,c2b1,H⟩|⟨c2b0,c2b1,c2,H⟩
 ·obtain rfl:=sI H
  go_enter Tryd.func47,Tryd.ntmps47;go_wp2
  go_ret
  exact ⟨zz2,zz16⟩
 ·replace H:=iteEq H
  rcases H with ⟨c3b0,c3b1,H⟩|⟨c3b0,c3b1,c3,H⟩
  ·obtain rfl:=sI H
   go_enter Tryd.func47,Tryd.ntmps47;go_wp2
   go_ret
   exact ⟨zz2,zz16⟩
  ·replace H:=iteEq H
   rcases H with ⟨c4b0,c4b1,H⟩|⟨c4b0,c4b1,c4,H⟩
   ·obtain rfl:=sI H
    go_enter Tryd.func47,Tryd.ntmps47;go_wp2
    go_ret
    exact ⟨zz2,zz16⟩
   ·replace H:=iteEq H
    rcases H with ⟨c5b0,c5b1,H⟩|⟨c5b0,c5b1,c5,H⟩
    ·obtain rfl:=sI H
     go_enter Tryd.func47,Tryd.ntmps47;go_wp2
     go_ret
     exact ⟨zz2,zz16⟩
    ·replace H:=bindA H
     obtain ⟨t199,A6,H⟩:=H;have HF7:=A_ H;clear H;go_enter Tryd.func47,Tryd.ntmps47;go_wp2_with (first|(refine gR 54 (some 10) Tryd.func54 (impl_standsForItself.calls a0 t199 _ A6.out) ?_;rintro w' ⟨nd,rfl⟩)|((with_reducible refine atG ?_ ?_ fun K_ hK_=>?_);rfl;exact undecG)|((with_reducible refine atI ?_ fun K_ hK_=>?_);exact undecI))
     refine unG hK_ ?_;clear hK_ K_;obtain ⟨H⟩:=HF7;replace H:=iteB H;rcases H with ⟨rfl,H⟩|⟨rfl,H⟩
     ·(first|refine iteT ?_|refine iteF ?_|skip)
      obtain rfl:=sI H;(try ((with_reducible refine upS ?_);go_simp))
      go_wp2
      go_ret
      exact ⟨zz2,zz16⟩
     ·(first|refine iteT ?_|refine iteF ?_|skip)
      replace H:=iteEe H;rcases H with ⟨c9b0,H⟩|⟨c9b0,H⟩
      ·obtain rfl:=sI H
       go_wp2
       go_ret
       exact ⟨zz2,zz16⟩
      ·obtain rfl:=sI H
       go_wp2
       go_ret
       exact ⟨zz2,zz16⟩
def spec_l2Name.l0:Nat→ByteArray→Int→Option (Bool)
 | 0,_,_=>none
 | k+1,x0,x3=>if x3 < (x0.size:Int) then (if 0≤x3 then (if (bt x0 x3) < 97 then (some false) else (if (bt x0 x3) > 122 then (some false) else (spec_l2Name.l0 k x0 (wrap64 (x3+1))))) else (none)) else ((spec_l6In.f (x0.size:Int) 1 8).bind fun t225=>(some t225))
def spec_l2Name.f (k:Nat) (a0:ByteArray):Option (Bool):=spec_l2Name.l0 k a0 0
theorem spec_l2Name.mono_l:∀ k,(∀ y0 y1,LeO (spec_l2Name.l0 k y0 y1) (spec_l2Name.l0 (k+1) y0 y1))
 | 0=>by intros;intro r h;simp [spec_l2Name.l0] at h
 | k+1=>by
  have ih0:=spec_l2Name.mono_l k;intros;unfold spec_l2Name.l0;repeat' first|(with_reducible first|exact ih0 _ _|exact LeO.refl _|exact LeO.none _|refine LeO.ite ?_ ?_|refine LeO.bind ?_ (fun _=>?_))|exact LeO.none _|refine LeO.ite ?_ ?_|refine LeO.bind ?_ (fun _=>?_)
theorem spec_l2Name.mono:∀ a0 k,LeO (spec_l2Name.f k a0) (spec_l2Name.f (k+1) a0):=by
 intro a0 k;have ih0:=spec_l2Name.mono_l k;unfold spec_l2Name.f
 repeat' first|(with_reducible first|exact ih0 _ _|exact LeO.refl _|exact LeO.none _|refine LeO.ite ?_ ?_|refine LeO.bind ?_ (fun _=>?_))|exact LeO.none _|refine LeO.ite ?_ ?_|refine LeO.bind ?_ (fun _=>?_)
theorem spec_l2Name.calls (k:Nat) (a0:ByteArray) (r:Bool) (w:World) (h:spec_l2Name.f k a0=some r) :
  Calls Tryd.prog 19 #[.string a0] w fun e w'=>e=.returned (.bool r)∧Drawn0 w w':=by
 unfold spec_l2Name.f at h
 have H:=h;clear h;have H':=A_ H;clear H;go_enter Tryd.func19,Tryd.ntmps19;go_wp2
 go_loopg [3] k (fun kq v3 w'=>∃ (x3_1:Int),v3=.int .i64 x3_1∧Aside0 (spec_l2Name.l0 kq a0 x3_1=some r)∧Aside0 (kq≤k)∧Drawn0 w w')
 case atStart=>exact ⟨(0),zz2,H',⟨Nat.le_refl _⟩,zz16⟩
 case round=>
  clear H';obtain ⟨x3_1,rfl,HA,HK1,⟨m1,rfl⟩⟩:=hrel;cases gk with
  | zero=>exact absurd HA.out (by simp [spec_l2Name.l0])
  | succ k1=>
   obtain ⟨H⟩:=HA;simp only [spec_l2Name.l0] at H
   replace H:=iteEd H;rcases H with ⟨c2b0,H⟩|⟨c2b0,H⟩
   ·replace H:=iteNd H
    obtain ⟨c3b0,H⟩:=H;replace H:=iteEd H;rcases H with ⟨c5b0,H⟩|⟨c5b0,H⟩
    ·obtain rfl:=sI H
     have p4:0≤(x3_1:Int):=ofD;have q4:x3_1 < (a0.size:Int):=ofD;have hx4:=bt_at a0 x3_1;replace p4:=eq_true p4;replace q4:=eq_true q4;go_wp2
     go_ret
     exact ⟨zz2,zz16⟩
    ·replace H:=iteEg H
     rcases H with ⟨c7b0,H⟩|⟨c7b0,H⟩
     ·obtain rfl:=sI H
      have p4:0≤(x3_1:Int):=ofD;have q4:x3_1 < (a0.size:Int):=ofD;have hx4:=bt_at a0 x3_1;replace p4:=eq_true p4;replace q4:=eq_true q4;have p6:0≤(x3_1:Int):=ofD;have q6:x3_1 < (a0.size:Int):=ofD;have hx6:=bt_at a0 x3_1;replace p6:=eq_true p6;replace q6:=eq_true q6;go_wp2
      go_ret
      exact ⟨zz2,zz16⟩
     ·have H':=A_ H
      clear H;have p4:0≤(x3_1:Int):=ofD;have q4:x3_1 < (a0.size:Int):=ofD;have hx4:=bt_at a0 x3_1;replace p4:=eq_true p4;replace q4:=eq_true q4;have p6:0≤(x3_1:Int):=ofD;have q6:x3_1 < (a0.size:Int):=ofD;have hx6:=bt_at a0 x3_1;replace p6:=eq_true p6;replace q6:=eq_true q6;go_wp2
      go_roundg k1
      case measure=>have:=HK1.out;omega
      case rel=>exact ⟨(wrap64 (x3_1+1)),zz2,H',⟨(zz18 HK1)⟩,zz16⟩
   ·replace H:=bindA H
    obtain ⟨t225,A8,H⟩:=H;obtain rfl:=sI H;go_wp2_with (first|(refine gR 18 (some 22) Tryd.func18 (spec_l6In.calls (a0.size:Int) 1 8 t225 _ A8.out) ?_;rintro w' ⟨nd,rfl⟩))
    go_ret
    exact ⟨zz2,zz16⟩
mutual
def spec_RuleOk.j0:Nat→ByteArray→Bool→Option (Bool)
 | 0,_,_=>none
 | k+1,x0,x16=>if x16=true then (some false) else (spec_RuleOk.l0 k x0 0)
def spec_RuleOk.l0:Nat→ByteArray→Int→Option (Bool)
 | 0,_,_=>none
 | k+1,x0,x3=>if x3 < (x0.size:Int) then (if 0≤x3 then ((spec_l1Plain.f (bt x0 x3)).bind fun t226=>(if t226=true then (spec_RuleOk.l0 k x0 (wrap64 (x3+1))) else (if (bt x0 x3)=47 then (spec_RuleOk.l0 k x0 (wrap64 (x3+1))) else (if (bt x0 x3)=42 then (spec_RuleOk.l0 k x0 (wrap64 (x3+1))) else (if (bt x0 x3)=63 then (spec_RuleOk.l0 k x0 (wrap64 (x3+1))) else (if (bt x0 x3)=37 then (spec_RuleOk.l0 k x0 (wrap64 (x3+1))) else (if (bt x0 x3) ≥ 65 then (if ((bt x0 x3)≤70) then (spec_RuleOk.l0 k x0 (wrap64 (x3+1))) else (if (bt x0 x3)=36 then (if (x3=(wrap64 ((x0.size:Int) - 1))) then (spec_RuleOk.l0 k x0 (wrap64 (x3+1))) else (some false)) else (some false))) else (if (bt x0 x3)=36 then (if (x3=(wrap64 ((x0.size:Int) - 1))) then (spec_RuleOk.l0 k x0 (wrap64 (x3+1))) else (some false)) else (some false))))))))) else (none)) else (some true)
end
def spec_RuleOk.f (k:Nat) (a0:ByteArray):Option (Bool):=if (a0.size:Int) > 16 then (spec_RuleOk.j0 k a0 true) else (if a0.toList=([]:List UInt8) then (spec_RuleOk.j0 k a0 true) else (if 0 < (a0.size:Int) then (spec_RuleOk.j0 k a0 ((bt a0 0) != 47)) else (none)))
theorem spec_RuleOk.calls (k:Nat) (a0:ByteArray) (r:Bool) (w:World) (h:spec_RuleOk.f k a0=some r) :
  Calls Tryd.prog 20 #[.string a0] w fun e w'=>e=.returned (.bool r)∧Drawn0 w w':=by
 unfold spec_RuleOk.f at h
 have H:=h;clear h;have HC2:=A_ H;clear H;go_enter Tryd.func20,Tryd.ntmps20;go_upto_region 1 with (fail)
 go_cut [16] (fun v16 wc=>∃ (kq:Nat) (x16_1:Bool),v16=.bool x16_1∧Aside0 (spec_RuleOk.j0 kq a0 x16_1=some r)∧Aside0 (kq≤k)∧Drawn0 w wc)
 case first=>
  obtain ⟨H⟩:=HC2;replace H:=iteE H;rcases H with ⟨c3,H⟩|⟨c3,H⟩
  ·have c3b0:=gtT c3
   have c3b1:decide (16 < a0.size)=true:=dT (by omega);clear c3;(first|rw [c3b0]|(simp only [i64_w,i32_w];rw [c3b0])|skip)
   have H':=A_ H;clear H;go_wp2
   go_meet
   case rel=>exact ⟨_,(true),zz2,H',⟨zz3⟩,zz16⟩
  ·have c3b0:=gtF c3
   have c3b1:decide (16 < a0.size)=false:=dF (by omega);clear c3;(first|rw [c3b0]|(simp only [i64_w,i32_w];rw [c3b0])|skip)
   replace H:=iteEq H;rcases H with ⟨c4b0,c4b1,H⟩|⟨c4b0,c4b1,c4,H⟩
   ·have H':=A_ H
    clear H;go_wp2
    go_meet
    case rel=>exact ⟨_,(true),zz2,H',⟨zz3⟩,zz16⟩
   ·replace H:=iteN H
    obtain ⟨c5,H⟩:=H;have c5b0:=dT c5;have c5b1:decide (0 < a0.size)=true:=dT (by omega);clear c5;have H':=A_ H;clear H;have p6:0≤(0:Int):=(by omega);have q6:0 < a0.size:=(by have:(0:Int) < (a0.size:Int):=ofD;omega);have hx6:∀ h:0 < a0.size,((a0[0]'h).toNat:Int)=bt a0 0:=bt_at a0 0;clear p6;have qi6:(0 < (a0.size:Int))=True:=eq_true ofD;replace q6:=eq_true q6;go_wp2
    go_meet
    case rel=>exact ⟨_,(((bt a0 0) != 47)),zz2,H',⟨zz3⟩,zz16⟩
 case rest=>
  clear HC2;obtain ⟨kq,x16_1,rfl,HA,HJ1,⟨mc1,rfl⟩⟩:=hcut;cases kq with
  | zero=>exact absurd HA.out (by simp [spec_RuleOk.j0])
  | succ kj1=>
   obtain ⟨H⟩:=HA;simp only [spec_RuleOk.j0] at H
   replace H:=iteB H;rcases H with ⟨rfl,H⟩|⟨rfl,H⟩
   ·obtain rfl:=sI H
    go_wp2
    go_ret
    exact ⟨zz2,zz16⟩
   ·have H':=A_ H
    clear H;go_wp2
    go_loopg [3] kj1 (fun kq v3 w'=>∃ (x3_2:Int),v3=.int .i64 x3_2∧Aside0 (spec_RuleOk.l0 kq a0 x3_2=some r)∧Aside0 (kq≤kj1)∧Drawn0 w w')
    case atStart=>exact ⟨(0),zz2,H',⟨Nat.le_refl _⟩,zz16⟩
    case round=>
     clear H';obtain ⟨x3_2,rfl,HA,HK2,⟨m2,rfl⟩⟩:=hrel;cases gk with
     | zero=>exact absurd HA.out (by simp [spec_RuleOk.l0])
     | succ k2=>
      obtain ⟨H⟩:=HA;simp only [spec_RuleOk.l0] at H
      replace H:=iteEd H;rcases H with ⟨c8b0,H⟩|⟨c8b0,H⟩
      ·replace H:=iteNd H
       obtain ⟨c9b0,H⟩:=H;replace H:=bindA H;obtain ⟨t226,A11,H⟩:=H;have HF12:=A_ H;clear H;have p10:0≤(x3_2:Int):=ofD;have q10:x3_2 < (a0.size:Int):=ofD;have hx10:=bt_at a0 x3_2;replace p10:=eq_true p10;replace q10:=eq_true q10;go_wp2_with (first|(refine gR 30 (some 27) Tryd.func30 (spec_l1Plain.calls (bt a0 x3_2) t226 _ A11.out) ?_;rintro w' ⟨nd,rfl⟩)|((with_reducible refine atG ?_ ?_ fun K_ hK_=>?_);rfl;exact undecG)|((with_reducible refine atI ?_ fun K_ hK_=>?_);exact undecI))
       refine unG hK_ ?_;clear hK_ K_;obtain ⟨H⟩:=HF12;replace H:=iteB H;rcases H with ⟨rfl,H⟩|⟨rfl,H⟩
       ·(first|refine iteT ?_|refine iteF ?_|skip)
        have H':=A_ H;clear H;(try ((with_reducible refine upS ?_);go_simp))
        go_wp2
        go_roundg k2
        case measure=>have:=HJ1.out;have:=HK2.out;omega
        case rel=>exact ⟨(wrap64 (x3_2+1)),zz2,H',⟨(zz31 HJ1 HK2)⟩,zz16⟩
       ·(first|refine iteT ?_|refine iteF ?_|skip)
        replace H:=iteEq H;rcases H with ⟨c14b0,c14b1,H⟩|⟨c14b0,c14b1,c14,H⟩
        ·have H':=A_ H
         clear H;go_wp2
         go_roundg k2
         case measure=>have:=HJ1.out;have:=HK2.out;omega
         case rel=>exact ⟨(wrap64 (x3_2+1)),zz2,H',⟨(zz31 HJ1 HK2)⟩,zz16⟩
        ·replace H:=iteEq H
         rcases H with ⟨c15b0,c15b1,H⟩|⟨c15b0,c15b1,c15,H⟩
         ·have H':=A_ H
          clear H;go_wp2
          go_roundg k2
          case measure=>have:=HJ1.out;have:=HK2.out;omega
          case rel=>exact ⟨(wrap64 (x3_2+1)),zz2,H',⟨(zz31 HJ1 HK2)⟩,zz16⟩
         ·replace H:=iteEq H
          rcases H with ⟨c16b0,c16b1,H⟩|⟨c16b0,c16b1,c16,H⟩
          ·have H':=A_ H
           clear H;go_wp2
           go_roundg k2
           case measure=>have:=HJ1.out;have:=HK2.out;omega
           case rel=>exact ⟨(wrap64 (x3_2+1)),zz2,H',⟨(zz31 HJ1 HK2)⟩,zz16⟩
          ·replace H:=iteEq H
           rcases H with ⟨c17b0,c17b1,H⟩|⟨c17b0,c17b1,c17,H⟩
           ·have H':=A_ H
            clear H;go_wp2
            go_roundg k2
            case measure=>have:=HJ1.out;have:=HK2.out;omega
            case rel=>exact ⟨(wrap64 (x3_2+1)),zz2,H',⟨(zz31 HJ1 HK2)⟩,zz16⟩
           ·replace H:=iteEe H
            rcases H with ⟨c18b0,H⟩|⟨c18b0,H⟩
            ·replace H:=iteE H
             rcases H with ⟨c19,H⟩|⟨c19,H⟩
             ·have c19b0:decide ((bt a0 x3_2)≤70)=true:=dT c19
              clear c19;have H':=A_ H;clear H;go_wp2
              go_roundg k2
              case measure=>have:=HJ1.out;have:=HK2.out;omega
              case rel=>exact ⟨(wrap64 (x3_2+1)),zz2,H',⟨(zz31 HJ1 HK2)⟩,zz16⟩
             ·have c19b0:decide ((bt a0 x3_2)≤70)=false:=dF c19
              clear c19;replace H:=iteEq H;rcases H with ⟨c20b0,c20b1,H⟩|⟨c20b0,c20b1,c20,H⟩
              ·replace H:=iteEq H
               rcases H with ⟨c21b0,c21b1,H⟩|⟨c21b0,c21b1,c21,H⟩
               ·have H':=A_ H
                clear H;go_wp2
                go_roundg k2
                case measure=>have:=HJ1.out;have:=HK2.out;omega
                case rel=>exact ⟨(wrap64 (x3_2+1)),zz2,H',⟨(zz31 HJ1 HK2)⟩,zz16⟩
               ·obtain rfl:=sI H
                go_wp2
                go_ret
                exact ⟨zz2,zz16⟩
              ·obtain rfl:=sI H
               go_wp2
               go_ret
               exact ⟨zz2,zz16⟩
            ·replace H:=iteEq H
             rcases H with ⟨c22b0,c22b1,H⟩|⟨c22b0,c22b1,c22,H⟩
             ·replace H:=iteEq H
              rcases H with ⟨c23b0,c23b1,H⟩|⟨c23b0,c23b1,c23,H⟩
              ·have H':=A_ H
               clear H;go_wp2
               go_roundg k2
               case measure=>have:=HJ1.out;have:=HK2.out;omega
               case rel=>exact ⟨(wrap64 (x3_2+1)),zz2,H',⟨(zz31 HJ1 HK2)⟩,zz16⟩
              ·obtain rfl:=sI H
               go_wp2
               go_ret
               exact ⟨zz2,zz16⟩
             ·obtain rfl:=sI H
              go_wp2
              go_ret
              exact ⟨zz2,zz16⟩
      ·obtain rfl:=sI H
       go_wp2
       go_ret
       exact ⟨zz2,zz16⟩
mutual
def spec_NoticeOk.l0:Nat→List (S40)→Int→Int→Option (Bool)
 | 0,_,_,_=>none
 | k+1,x0,x3,x4=>if x4 < (x0.length:Int) then (if 0≤x4 then (if (((rd_T40 x0 x4).f0).length:Int)=0 then (spec_NoticeOk.j1 k x0 x3 x4 true ((rd_T40 x0 x4).f0) ((rd_T40 x0 x4).f1) ((rd_T40 x0 x4).f2)) else (if (((rd_T40 x0 x4).f1).length:Int)=0 then (if ((rd_T40 x0 x4).f2)=0 then (spec_NoticeOk.j1 k x0 x3 x4 true ((rd_T40 x0 x4).f0) ((rd_T40 x0 x4).f1) ((rd_T40 x0 x4).f2)) else (if (((rd_T40 x0 x4).f1).length:Int) > 6 then (spec_NoticeOk.j1 k x0 x3 x4 true ((rd_T40 x0 x4).f0) ((rd_T40 x0 x4).f1) ((rd_T40 x0 x4).f2)) else ((spec_l6In.f ((rd_T40 x0 x4).f2) 0 20).bind fun t229=>(spec_NoticeOk.j1 k x0 x3 x4 (!t229) ((rd_T40 x0 x4).f0) ((rd_T40 x0 x4).f1) ((rd_T40 x0 x4).f2))))) else (if (((rd_T40 x0 x4).f1).length:Int) > 6 then (spec_NoticeOk.j1 k x0 x3 x4 true ((rd_T40 x0 x4).f0) ((rd_T40 x0 x4).f1) ((rd_T40 x0 x4).f2)) else ((spec_l6In.f ((rd_T40 x0 x4).f2) 0 20).bind fun t230=>(spec_NoticeOk.j1 k x0 x3 x4 (!t230) ((rd_T40 x0 x4).f0) ((rd_T40 x0 x4).f1) ((rd_T40 x0 x4).f2)))))) else (none)) else (some (decide (x3≤40)))
def spec_NoticeOk.j1:Nat→List (S40)→Int→Int→Bool→List ByteArray→List (S51)→Int→Option (Bool)
 | 0,_,_,_,_,_,_,_=>none
 | k+1,x0,x3,x4,x44,x229000,x229001,x229002=>if x44=true then (some false) else (spec_NoticeOk.l1 k x0 x3 x4 0 x229000 x229001 x229002)
def spec_NoticeOk.l1:Nat→List (S40)→Int→Int→Int→List ByteArray→List (S51)→Int→Option (Bool)
 | 0,_,_,_,_,_,_,_=>none
 | k+1,x0,x3,x4,x6,x229000,x229001,x229002=>if x6 < (x229000.length:Int) then (if 0≤x6 then (if (rdOf ByteArray.empty x229000 x6).toList=([42]:List UInt8) then (spec_NoticeOk.l1 k x0 x3 x4 (wrap64 (x6+1)) x229000 x229001 x229002) else ((spec_l2Name.f k (rdOf ByteArray.empty x229000 x6)).bind fun t233=>(if t233=true then (spec_NoticeOk.l1 k x0 x3 x4 (wrap64 (x6+1)) x229000 x229001 x229002) else (some false)))) else (none)) else (spec_NoticeOk.l2 k x0 x3 x4 0 x229000 x229001 x229002)
def spec_NoticeOk.l2:Nat→List (S40)→Int→Int→Int→List ByteArray→List (S51)→Int→Option (Bool)
 | 0,_,_,_,_,_,_,_=>none
 | k+1,x0,x3,x4,x7,x229000,x229001,x229002=>if x7 < (x229001.length:Int) then (if 0≤x7 then ((spec_RuleOk.f k ((rd_T51 x229001 x7).f1)).bind fun t235=>(if t235=true then (spec_NoticeOk.l2 k x0 x3 x4 (wrap64 (x7+1)) x229000 x229001 x229002) else (some false))) else (none)) else (spec_NoticeOk.l0 k x0 (wrap64 ((wrap64 ((wrap64 (x3+(x229000.length:Int)))+(x229001.length:Int)))+1)) (wrap64 (x4+1)))
end
def spec_NoticeOk.f (k:Nat) (l0:List (S40)):Option (Bool):=spec_NoticeOk.l0 k l0 0 0
theorem spec_NoticeOk.calls (k:Nat) (A0:Option Addr) (c0:Nat) (l0:List (S40)) (r:Bool) (w:World) (hr0:Kd.C k40 w A0 l0.length l0) (hc0:l0.length≤c0) (h:spec_NoticeOk.f k l0=some r) :
  Calls Tryd.prog 8 #[.slice A0 l0.length c0] w fun e w'=>e=.returned (.bool r)∧Below w.heap.size w w':=by
 have hu40:=Tryd.underlying40;have HR0:=A_ hr0;have HC0:=A_ hc0;clear hr0 hc0;have HB:=A_ (Below.refl w.heap.size w);unfold spec_NoticeOk.f at h
 have H:=h;clear h;have H':=A_ H;clear H;go_enter Tryd.func8,Tryd.ntmps8;go_wp2
 go_loopg [3,4] k (fun kq v3 v4 w'=>∃ (x3_1:Int) (x4_1:Int),v3=.int .i64 x3_1∧v4=.int .i64 x4_1∧Aside0 (spec_NoticeOk.l0 kq l0 x3_1 x4_1=some r)∧Aside0 (kq≤k)∧Aside0 (Below w.heap.size w w'))
 case atStart=>exact ⟨(0),(0),zz2,zz2,H',⟨Nat.le_refl _⟩,⟨(zz12 HB)⟩⟩
 case round=>
  clear H';obtain ⟨x3_1,x4_1,rfl,rfl,HA,HK1,HB⟩:=hrel;cases gk with
  | zero=>exact absurd HA.out (by simp [spec_NoticeOk.l0])
  | succ k1=>
   obtain ⟨H⟩:=HA;simp only [spec_NoticeOk.l0] at H
   replace H:=iteEd H;rcases H with ⟨c2b0,H⟩|⟨c2b0,H⟩
   ·replace H:=iteNd H
    obtain ⟨c3b0,H⟩:=H;have HC4:=A_ H;clear H;obtain ⟨⟨ad227,A227_0,c227_0,A227_1,c227_1,e227,hx227_0,hx227_1,hx227_2,hl227_0,hi227_0,hl227_1,hi227_1⟩,p227,q227⟩:=atB (at_T40 HR0.out x4_1);cases e227
    obtain ⟨hx227_0,hx227_1,hx227_2⟩:=cb3 HB hx227_0 hx227_1 hx227_2;have HR227_0:=A_ hi227_0;have HC227_0:=A_ hl227_0;clear hi227_0 hl227_0;have HR227_1:=A_ hi227_1;have HC227_1:=A_ hl227_1;clear hi227_1 hl227_1;go_upto_region 6 with (first|((with_reducible refine gD (N:=5) rfl ?_);(try (refine gate_guard (by rfl) ?_;dsimp only));refine boxE 5 #[.slice none 0 0,.slice none 0 0,.int .i64 0] 40 ?_;intro gb228 hg w5 hbox hb;have BK228:=A_ (hbox);have GE228:=geB hg (zz12 HB);replace HB:=A_ (bS (zz12 HB) hb);clear hb hbox hg;obtain ⟨_,_,_,_,_,_⟩:=cf3 BK228))
    (try simp only [Act.put,List.setIfInBounds_toArray,List.set_cons_zero,List.set_cons_succ])
    go_cut [44] (fun v44 wc=>∃ (kq:Nat) (x44_3:Bool),v44=.bool x44_3∧Aside0 (spec_NoticeOk.j1 kq l0 x3_1 x4_1 x44_3 ((rd_T40 l0 x4_1).f0) ((rd_T40 l0 x4_1).f1) ((rd_T40 l0 x4_1).f2)=some r)∧Aside0 (kq≤k1)∧Aside0 (wc.heap[gb228]?=some (.cells #[(.slice A227_0 ((rd_T40 l0 x4_1).f0).length c227_0),(.slice A227_1 ((rd_T40 l0 x4_1).f1).length c227_1),.int .i64 ((rd_T40 l0 x4_1).f2)] 40 (0,0)))∧Aside0 (Below w.heap.size w wc))
    case first=>
     obtain ⟨H⟩:=HC4;replace H:=iteEq H;rcases H with ⟨c7b0,c7b1,H⟩|⟨c7b0,c7b1,c7,H⟩
     ·(first|rw [c7b0]|(simp only [i64_w,i32_w];rw [c7b0])|skip)
      have H':=A_ H;clear H;obtain ⟨_,_,_,_,_,_⟩:=cf3 BK228;go_wp2
      go_meet
      case rel=>exact ⟨_,(true),zz2,H',⟨(zz38 HK1)⟩,⟨(zz39 BK228)⟩,⟨(zz24 HB GE228)⟩⟩
     ·have c7b2:¬ (((rd_T40 l0 x4_1).f0)=[]):=fun h_=>c7 (by rw [h_];rfl)
      (first|rw [c7b0]|(simp only [i64_w,i32_w];rw [c7b0])|skip)
      replace H:=iteEq H;rcases H with ⟨c9b0,c9b1,H⟩|⟨c9b0,c9b1,c9,H⟩
      ·replace H:=iteEq H
       rcases H with ⟨c10b0,c10b1,H⟩|⟨c10b0,c10b1,c10,H⟩
       ·have H':=A_ H
        clear H;obtain ⟨_,_,_,_,_,_⟩:=cf3 BK228;go_wp2
        go_meet
        case rel=>exact ⟨_,(true),zz2,H',⟨(zz38 HK1)⟩,⟨(zz39 BK228)⟩,⟨(zz24 HB GE228)⟩⟩
       ·replace H:=iteE H
        rcases H with ⟨c12,H⟩|⟨c12,H⟩
        ·have c12b0:=gtT c12
         have c12b1:decide (6 < ((rd_T40 l0 x4_1).f1).length)=true:=dT (by omega);clear c12;have H':=A_ H;clear H;obtain ⟨_,_,_,_,_,_⟩:=cf3 BK228;go_wp2
         go_meet
         case rel=>exact ⟨_,(true),zz2,H',⟨(zz38 HK1)⟩,⟨(zz39 BK228)⟩,⟨(zz24 HB GE228)⟩⟩
        ·have c12b0:=gtF c12
         have c12b1:decide (6 < ((rd_T40 l0 x4_1).f1).length)=false:=dF (by omega);clear c12;replace H:=bindA H;obtain ⟨t229,A14,H⟩:=H;have H':=A_ H;clear H;obtain ⟨_,_,_,_,_,_⟩:=cf3 BK228;go_wp2_with (first|(go_at_call 18;(with_reducible refine (spec_l6In.calls ((rd_T40 l0 x4_1).f2) 0 20 t229 _ A14.out).mono ?_);rintro e w' ⟨rfl,⟨nd,rfl⟩⟩))
         go_meet
         case rel=>exact ⟨_,(!t229),zz2,H',⟨(zz38 HK1)⟩,⟨(zz39 BK228)⟩,⟨(zz24 HB GE228)⟩⟩
      ·have c9b2:¬ (((rd_T40 l0 x4_1).f1)=[]):=fun h_=>c9 (by rw [h_];rfl)
       replace H:=iteE H;rcases H with ⟨c16,H⟩|⟨c16,H⟩
       ·have c16b0:=gtT c16
        have c16b1:decide (6 < ((rd_T40 l0 x4_1).f1).length)=true:=dT (by omega);clear c16;have H':=A_ H;clear H;obtain ⟨_,_,_,_,_,_⟩:=cf3 BK228;go_wp2
        go_meet
        case rel=>exact ⟨_,(true),zz2,H',⟨(zz38 HK1)⟩,⟨(zz39 BK228)⟩,⟨(zz24 HB GE228)⟩⟩
       ·have c16b0:=gtF c16
        have c16b1:decide (6 < ((rd_T40 l0 x4_1).f1).length)=false:=dF (by omega);clear c16;replace H:=bindA H;obtain ⟨t230,A18,H⟩:=H;have H':=A_ H;clear H;obtain ⟨_,_,_,_,_,_⟩:=cf3 BK228;go_wp2_with (first|(go_at_call 18;(with_reducible refine (spec_l6In.calls ((rd_T40 l0 x4_1).f2) 0 20 t230 _ A18.out).mono ?_);rintro e w' ⟨rfl,⟨nd,rfl⟩⟩))
        go_meet
        case rel=>exact ⟨_,(!t230),zz2,H',⟨(zz38 HK1)⟩,⟨(zz39 BK228)⟩,⟨(zz24 HB GE228)⟩⟩
    case rest=>
     clear HC4;obtain ⟨kq,x44_3,rfl,HA,HJ3,BK228,HB⟩:=hcut;cases kq with
     | zero=>exact absurd HA.out (by simp [spec_NoticeOk.j1])
     | succ kj3=>
      obtain ⟨H⟩:=HA;simp only [spec_NoticeOk.j1] at H
      replace H:=iteB H;rcases H with ⟨rfl,H⟩|⟨rfl,H⟩
      ·obtain rfl:=sI H
       go_wp2
       go_ret
       exact ⟨zz8,(zz24 HB GE228)⟩
      ·have H':=A_ H
       clear H;go_wp2
       go_loopg [6] kj3 (fun kq v6 w'=>∃ (x6_3:Int),v6=.int .i64 x6_3∧Aside0 (spec_NoticeOk.l1 kq l0 x3_1 x4_1 x6_3 ((rd_T40 l0 x4_1).f0) ((rd_T40 l0 x4_1).f1) ((rd_T40 l0 x4_1).f2)=some r)∧Aside0 (kq≤kj3)∧Aside0 (w'.heap[gb228]?=some (.cells #[(.slice A227_0 ((rd_T40 l0 x4_1).f0).length c227_0),(.slice A227_1 ((rd_T40 l0 x4_1).f1).length c227_1),.int .i64 ((rd_T40 l0 x4_1).f2)] 40 (0,0)))∧Aside0 (Below w.heap.size w w'))
       case atStart=>exact ⟨(0),zz2,H',⟨Nat.le_refl _⟩,⟨(zz23 BK228)⟩,⟨(zz24 HB GE228)⟩⟩
       case round=>
        clear H';obtain ⟨x6_3,rfl,HA,HK3,BK228,HB⟩:=hrel;cases gk with
        | zero=>exact absurd HA.out (by simp [spec_NoticeOk.l1])
        | succ k3=>
         obtain ⟨H⟩:=HA;simp only [spec_NoticeOk.l1] at H
         replace H:=iteEd H;rcases H with ⟨c21b0,H⟩|⟨c21b0,H⟩
         ·replace H:=iteNd H
          obtain ⟨c22b0,H⟩:=H;replace H:=iteEq H;rcases H with ⟨c23b0,c23b1,H⟩|⟨c23b0,c23b1,c23,H⟩
          ·have H':=A_ H
           clear H;obtain ⟨_,_,_,_,_,_⟩:=cf3 BK228;obtain ⟨⟨ad231,e231,hx231_0⟩,p231,q231⟩:=atB (Kd.at_string HR227_0.out x6_3);cases e231
           replace hx231_0:=cbl HB hx231_0;go_wp2
           go_roundg k3
           case measure=>have:=HK1.out;have:=HJ3.out;have:=HK3.out;omega
           case rel=>exact ⟨(wrap64 (x6_3+1)),zz2,H',⟨(zz42 HK1 HJ3 HK3)⟩,⟨(zz23 BK228)⟩,⟨(zz24 HB GE228)⟩⟩
          ·replace H:=bindA H
           obtain ⟨t233,A25,H⟩:=H;have HF26:=A_ H;clear H;obtain ⟨_,_,_,_,_,_⟩:=cf3 BK228;obtain ⟨⟨ad231,e231,hx231_0⟩,p231,q231⟩:=atB (Kd.at_string HR227_0.out x6_3);cases e231
           replace hx231_0:=cbl HB hx231_0;obtain ⟨⟨ad232,e232,hx232_0⟩,p232,q232⟩:=atB (Kd.at_string HR227_0.out x6_3);obtain rfl:ad231=ad232:=(by injection e232);replace hx232_0:=cbl HB hx232_0;go_upto_if 66 with (first|(go_at_call 19;(with_reducible refine (spec_l2Name.calls k3 (rdOf ByteArray.empty ((rd_T40 l0 x4_1).f0) x6_3) t233 _ A25.out).mono ?_);rintro e w' ⟨rfl,⟨nd,rfl⟩⟩))
           obtain ⟨H⟩:=HF26;replace H:=iteB H;rcases H with ⟨rfl,H⟩|⟨rfl,H⟩
           ·have H':=A_ H
            clear H;go_wp2
            go_roundg k3
            case measure=>have:=HK1.out;have:=HJ3.out;have:=HK3.out;omega
            case rel=>exact ⟨(wrap64 (x6_3+1)),zz2,H',⟨(zz42 HK1 HJ3 HK3)⟩,⟨(zz23 BK228)⟩,⟨(zz24 HB GE228)⟩⟩
           ·obtain rfl:=sI H
            go_wp2
            go_ret
            exact ⟨zz8,(zz24 HB GE228)⟩
         ·have H':=A_ H
          clear H;obtain ⟨_,_,_,_,_,_⟩:=cf3 BK228;go_wp2
          go_loopg [7] k3 (fun kq v7 w'=>∃ (x7_4:Int),v7=.int .i64 x7_4∧Aside0 (spec_NoticeOk.l2 kq l0 x3_1 x4_1 x7_4 ((rd_T40 l0 x4_1).f0) ((rd_T40 l0 x4_1).f1) ((rd_T40 l0 x4_1).f2)=some r)∧Aside0 (kq≤k3)∧Aside0 (w'.heap[gb228]?=some (.cells #[(.slice A227_0 ((rd_T40 l0 x4_1).f0).length c227_0),(.slice A227_1 ((rd_T40 l0 x4_1).f1).length c227_1),.int .i64 ((rd_T40 l0 x4_1).f2)] 40 (0,0)))∧Aside0 (Below w.heap.size w w'))
          case atStart=>exact ⟨(0),zz2,H',⟨Nat.le_refl _⟩,⟨(zz23 BK228)⟩,⟨(zz24 HB GE228)⟩⟩
          case round=>
           clear H';obtain ⟨x7_4,rfl,HA,HK4,BK228,HB⟩:=hrel;cases gk with
           | zero=>exact absurd HA.out (by simp [spec_NoticeOk.l2])
           | succ k4=>
            obtain ⟨H⟩:=HA;simp only [spec_NoticeOk.l2] at H
            replace H:=iteEd H;rcases H with ⟨c30b0,H⟩|⟨c30b0,H⟩
            ·replace H:=iteNd H
             obtain ⟨c31b0,H⟩:=H;replace H:=bindA H;obtain ⟨t235,A32,H⟩:=H;have HF33:=A_ H;clear H;obtain ⟨_,_,_,_,_,_⟩:=cf3 BK228;obtain ⟨⟨ad234,e234,hx234_0,hx234_1⟩,p234,q234⟩:=atB (at_T51 HR227_1.out x7_4);cases e234
             obtain ⟨hx234_0,hx234_1⟩:=cb2 HB hx234_0 hx234_1;go_upto_if 81 with (first|(refine gR 20 (some 80) Tryd.func20 (spec_RuleOk.calls k4 ((rd_T51 ((rd_T40 l0 x4_1).f1) x7_4).f1) t235 _ A32.out) ?_;rintro w' ⟨nd,rfl⟩))
             obtain ⟨H⟩:=HF33;replace H:=iteB H;rcases H with ⟨rfl,H⟩|⟨rfl,H⟩
             ·have H':=A_ H
              clear H;go_wp2
              go_roundg k4
              case measure=>have:=HK1.out;have:=HJ3.out;have:=HK3.out;have:=HK4.out;omega
              case rel=>exact ⟨(wrap64 (x7_4+1)),zz2,H',⟨(by have:=HK1.out;have:=HJ3.out;have:=HK3.out;have:=HK4.out;omega)⟩,⟨(zz23 BK228)⟩,⟨(zz24 HB GE228)⟩⟩
             ·obtain rfl:=sI H
              go_wp2
              go_ret
              exact ⟨zz8,(zz24 HB GE228)⟩
            ·have H':=A_ H
             clear H;obtain ⟨_,_,_,_,_,_⟩:=cf3 BK228;go_wp2
             go_roundg k4
             case measure=>have:=HK1.out;have:=HJ3.out;have:=HK3.out;have:=HK4.out;omega
             case rel=>exact ⟨(wrap64 ((wrap64 ((wrap64 (x3_1+(((rd_T40 l0 x4_1).f0).length:Int)))+(((rd_T40 l0 x4_1).f1).length:Int)))+1)),(wrap64 (x4_1+1)),zz2,zz2,H',⟨(by have:=HK1.out;have:=HJ3.out;have:=HK3.out;have:=HK4.out;omega)⟩,⟨(zz24 HB GE228)⟩⟩
   ·obtain rfl:=sI H
    go_wp2
    go_ret
    exact ⟨zz8,(zz12 HB)⟩
mutual
def spec_NoticeText.l0:Nat→List (S40)→ByteArray→Int→Option (ByteArray)
 | 0,_,_,_=>none
 | k+1,x0,x3,x4=>if x4 < (x0.length:Int) then (spec_NoticeText.l1 k x0 x3 x4 0) else (some x3)
def spec_NoticeText.l1:Nat→List (S40)→ByteArray→Int→Int→Option (ByteArray)
 | 0,_,_,_,_=>none
 | k+1,x0,x3,x4,x5=>if 0≤x4 then (if x4 < (x0.length:Int) then (if x5 < (((rd_T40 x0 x4).f0).length:Int) then (if x3.size+7≤9223372036854775807 then (if 0≤x5 then (if x3.size+7+(rdOf ByteArray.empty ((rd_T40 x0 x4).f0) x5).size≤9223372036854775807 then (if x3.size+7+(rdOf ByteArray.empty ((rd_T40 x0 x4).f0) x5).size+1≤9223372036854775807 then (spec_NoticeText.l1 k x0 (((x3++(⟨#[99,97,108,108,101,114,32]⟩:ByteArray))++(rdOf ByteArray.empty ((rd_T40 x0 x4).f0) x5))++(⟨#[10]⟩:ByteArray)) x4 (wrap64 (x5+1))) else (none)) else (none)) else (none)) else (none)) else (spec_NoticeText.l2 k x0 x3 x4 0)) else (none)) else (none)
def spec_NoticeText.l2:Nat→List (S40)→ByteArray→Int→Int→Option (ByteArray)
 | 0,_,_,_,_=>none
 | k+1,x0,x3,x4,x6=>if 0≤x4 then (if x4 < (x0.length:Int) then (if x6 < (((rd_T40 x0 x4).f1).length:Int) then (if 0≤x6 then (if (rd_T51 ((rd_T40 x0 x4).f1) x6).f0=true then (if x3.size+4≤9223372036854775807 then (if x3.size+4+((rd_T51 ((rd_T40 x0 x4).f1) x6).f1).size≤9223372036854775807 then (if x3.size+4+((rd_T51 ((rd_T40 x0 x4).f1) x6).f1).size+1≤9223372036854775807 then (spec_NoticeText.l2 k x0 (((x3++(⟨#[108,101,116,32]⟩:ByteArray))++((rd_T51 ((rd_T40 x0 x4).f1) x6).f1))++(⟨#[10]⟩:ByteArray)) x4 (wrap64 (x6+1))) else (none)) else (none)) else (none)) else (if x3.size+4≤9223372036854775807 then (if x3.size+4+((rd_T51 ((rd_T40 x0 x4).f1) x6).f1).size≤9223372036854775807 then (if x3.size+4+((rd_T51 ((rd_T40 x0 x4).f1) x6).f1).size+1≤9223372036854775807 then (spec_NoticeText.l2 k x0 (((x3++(⟨#[98,97,114,32]⟩:ByteArray))++((rd_T51 ((rd_T40 x0 x4).f1) x6).f1))++(⟨#[10]⟩:ByteArray)) x4 (wrap64 (x6+1))) else (none)) else (none)) else (none))) else (none)) else (if ((rd_T40 x0 x4).f2) > 0 then (if x3.size+5≤9223372036854775807 then ((spec_l6Dec.f k ((rd_T40 x0 x4).f2)).bind fun t257=>(if x3.size+5+t257.size≤9223372036854775807 then (if x3.size+5+t257.size+1≤9223372036854775807 then (spec_NoticeText.l0 k x0 (((x3++(⟨#[119,97,105,116,32]⟩:ByteArray))++t257)++(⟨#[10]⟩:ByteArray)) (wrap64 (x4+1))) else (none)) else (none))) else (none)) else (spec_NoticeText.l0 k x0 x3 (wrap64 (x4+1))))) else (none)) else (none)
end
def spec_NoticeText.f (k:Nat) (l0:List (S40)):Option (ByteArray):=(spec_NoticeOk.f k l0).bind fun t244=>(if t244=true then (spec_NoticeText.l0 k l0 (⟨#[]⟩:ByteArray) 0) else (some (⟨#[]⟩:ByteArray)))
theorem spec_NoticeText.calls (k:Nat) (A0:Option Addr) (c0:Nat) (l0:List (S40)) (r:ByteArray) (w:World) (hr0:Kd.C k40 w A0 l0.length l0) (hc0:l0.length≤c0) (h:spec_NoticeText.f k l0=some r) :
  Calls Tryd.prog 7 #[.slice A0 l0.length c0] w fun e w'=>e=.returned (.string r)∧Below w.heap.size w w':=by
 have HR0:=A_ hr0;have HC0:=A_ hc0;clear hr0 hc0;have HB:=A_ (Below.refl w.heap.size w);unfold spec_NoticeText.f at h
 have H:=h;clear h;replace H:=bindA H;obtain ⟨t244,A2,H⟩:=H;have HF3:=A_ H;clear H;go_enter Tryd.func7,Tryd.ntmps7;go_upto_if 10 with (first|(refine gR 8 (some 9) Tryd.func8 (spec_NoticeOk.calls k _ _ l0 t244 _ ?side1 ?side2 A2.out) ?_;(case side1=>exact (by repeat (first|exact HR0.out|(with_reducible refine Kd.C_alloc ?_ _)|(with_reducible refine Kd.C_drewN ?_ _)|(with_reducible refine Kd.C_drew ?_))));(case side2=>exact HC0.out);rintro w4 hb;replace HB:=A_ (bS (zz12 HB) hb);(try clear hb)))
 obtain ⟨H⟩:=HF3;replace H:=iteB H;rcases H with ⟨rfl,H⟩|⟨rfl,H⟩
 ·have H':=A_ H
  clear H;go_wp2
  go_loopg [3,4] k (fun kq v3 v4 w'=>∃ (x3_1:ByteArray) (x4_1:Int),v3=.string x3_1∧v4=.int .i64 x4_1∧Aside0 (spec_NoticeText.l0 kq l0 x3_1 x4_1=some r)∧Aside0 (kq≤k)∧Aside0 (Below w.heap.size w w'))
  case atStart=>exact ⟨((⟨#[]⟩:ByteArray)),(0),zz2,zz2,H',⟨Nat.le_refl _⟩,⟨(zz12 HB)⟩⟩
  case round=>
   clear H';obtain ⟨x3_1,x4_1,rfl,rfl,HA,HK1,HB⟩:=hrel;cases gk with
   | zero=>exact absurd HA.out (by simp [spec_NoticeText.l0])
   | succ k1=>
    obtain ⟨H⟩:=HA;simp only [spec_NoticeText.l0] at H
    replace H:=iteEd H;rcases H with ⟨c6b0,H⟩|⟨c6b0,H⟩
    ·(first|rw [c6b0]|(simp only [i64_w,i32_w];rw [c6b0])|skip)
     have H':=A_ H;clear H;go_wp2
     go_loopg [3,5] k1 (fun kq v3 v5 w'=>∃ (x3_2:ByteArray) (x5_2:Int),v3=.string x3_2∧v5=.int .i64 x5_2∧Aside0 (spec_NoticeText.l1 kq l0 x3_2 x4_1 x5_2=some r)∧Aside0 (kq≤k1)∧Aside0 (Below w.heap.size w w'))
     case atStart=>exact ⟨(x3_1),(0),zz2,zz2,H',⟨Nat.le_refl _⟩,⟨(zz12 HB)⟩⟩
     case round=>
      clear H';obtain ⟨x3_2,x5_2,rfl,rfl,HA,HK2,HB⟩:=hrel;cases gk with
      | zero=>exact absurd HA.out (by simp [spec_NoticeText.l1])
      | succ k2=>
       obtain ⟨H⟩:=HA;simp only [spec_NoticeText.l1] at H
       replace H:=iteNd H;obtain ⟨c7b0,H⟩:=H;replace H:=iteNd H;obtain ⟨c8b0,H⟩:=H;replace H:=iteEd H;rcases H with ⟨c9b0,H⟩|⟨c9b0,H⟩
       ·replace H:=iteN H
        obtain ⟨c10,H⟩:=H;have c10b0:=eq_true c10;have c10b1:=dT c10;try have c10b2:(9223372036854775807 < x3_2.size+7)=False:=eq_false (Nat.not_lt.2 c10)
        replace H:=iteNd H;obtain ⟨c11b0,H⟩:=H;replace H:=iteN H;obtain ⟨c12,H⟩:=H;have c12b0:=eq_true c12;have c12b1:=dT c12;try have c12b2:(9223372036854775807 < x3_2.size+7+(rdOf ByteArray.empty ((rd_T40 l0 x4_1).f0) x5_2).size)=False:=eq_false (Nat.not_lt.2 c12)
        replace H:=iteN H;obtain ⟨c13,H⟩:=H;have c13b0:=eq_true c13;have c13b1:=dT c13;try have c13b2:(9223372036854775807 < x3_2.size+7+(rdOf ByteArray.empty ((rd_T40 l0 x4_1).f0) x5_2).size+1)=False:=eq_false (Nat.not_lt.2 c13)
        have H':=A_ H;clear H;obtain ⟨⟨ad245,A245_0,c245_0,A245_1,c245_1,e245,hx245_0,hx245_1,hx245_2,hl245_0,hi245_0,hl245_1,hi245_1⟩,p245,q245⟩:=atB (at_T40 HR0.out x4_1);cases e245
        obtain ⟨hx245_0,hx245_1,hx245_2⟩:=cb3 HB hx245_0 hx245_1 hx245_2;have HR245_0:=A_ hi245_0;have HC245_0:=A_ hl245_0;clear hi245_0 hl245_0;have HR245_1:=A_ hi245_1;have HC245_1:=A_ hl245_1;clear hi245_1 hl245_1;obtain ⟨⟨ad246,A246_0,c246_0,A246_1,c246_1,e246,hx246_0,hx246_1,hx246_2,hl246_0,hi246_0,hl246_1,hi246_1⟩,p246,q246⟩:=atB (at_T40 HR0.out x4_1);obtain rfl:ad245=ad246:=(by injection e246);obtain ⟨hx246_0,hx246_1,hx246_2⟩:=cb3 HB hx246_0 hx246_1 hx246_2;have HR246_0:=A_ hi246_0;have HC246_0:=A_ hl246_0;clear hi246_0 hl246_0;have HR246_1:=A_ hi246_1;have HC246_1:=A_ hl246_1;clear hi246_1 hl246_1;have ea_:=sI (hx245_0.symm.trans hx246_0);injection ea_ with ea_ en_ ec_
        subst ea_;subst ec_;clear en_;have ea_:=sI (hx245_1.symm.trans hx246_1);injection ea_ with ea_ en_ ec_
        subst ea_;subst ec_;clear en_;obtain ⟨⟨ad247,e247,hx247_0⟩,p247,q247⟩:=atB (Kd.at_string HR246_0.out x5_2);cases e247
        replace hx247_0:=cbl HB hx247_0;go_wp2
        go_roundg k2
        case measure=>have:=HK1.out;have:=HK2.out;omega
        case rel=>exact ⟨(((x3_2++(⟨#[99,97,108,108,101,114,32]⟩:ByteArray))++(rdOf ByteArray.empty ((rd_T40 l0 x4_1).f0) x5_2))++(⟨#[10]⟩:ByteArray)),(wrap64 (x5_2+1)),zz2,zz2,H',⟨(zz31 HK1 HK2)⟩,⟨(zz12 HB)⟩⟩
       ·have H':=A_ H
        clear H;obtain ⟨⟨ad245,A245_0,c245_0,A245_1,c245_1,e245,hx245_0,hx245_1,hx245_2,hl245_0,hi245_0,hl245_1,hi245_1⟩,p245,q245⟩:=atB (at_T40 HR0.out x4_1);cases e245
        obtain ⟨hx245_0,hx245_1,hx245_2⟩:=cb3 HB hx245_0 hx245_1 hx245_2;have HR245_0:=A_ hi245_0;have HC245_0:=A_ hl245_0;clear hi245_0 hl245_0;have HR245_1:=A_ hi245_1;have HC245_1:=A_ hl245_1;clear hi245_1 hl245_1;go_wp2
        go_loopg [3,6] k2 (fun kq v3 v6 w'=>∃ (x3_3:ByteArray) (x6_3:Int),v3=.string x3_3∧v6=.int .i64 x6_3∧Aside0 (spec_NoticeText.l2 kq l0 x3_3 x4_1 x6_3=some r)∧Aside0 (kq≤k2)∧Aside0 (Below w.heap.size w w'))
        case atStart=>exact ⟨(x3_2),(0),zz2,zz2,H',⟨Nat.le_refl _⟩,⟨(zz12 HB)⟩⟩
        case round=>
         clear H';obtain ⟨x3_3,x6_3,rfl,rfl,HA,HK3,HB⟩:=hrel;cases gk with
         | zero=>exact absurd HA.out (by simp [spec_NoticeText.l2])
         | succ k3=>
          obtain ⟨H⟩:=HA;simp only [spec_NoticeText.l2] at H
          replace H:=iteNd H;obtain ⟨c14b0,H⟩:=H;replace H:=iteNd H;obtain ⟨c15b0,H⟩:=H;replace H:=iteEd H;rcases H with ⟨c16b0,H⟩|⟨c16b0,H⟩
          ·replace H:=iteNd H
           obtain ⟨c17b0,H⟩:=H;obtain ⟨bq18,hbq18⟩:∃ b_:Bool,b_=((rd_T51 ((rd_T40 l0 x4_1).f1) x6_3).f0):=⟨_,rfl⟩;rw [← hbq18] at H;have Nbq18:=A_ hbq18;clear hbq18;replace H:=iteB H;rcases H with ⟨rfl,H⟩|⟨rfl,H⟩
           ·replace H:=iteN H
            obtain ⟨c20,H⟩:=H;have c20b0:=eq_true c20;have c20b1:=dT c20;try have c20b2:(9223372036854775807 < x3_3.size+4)=False:=eq_false (Nat.not_lt.2 c20)
            replace H:=iteN H;obtain ⟨c21,H⟩:=H;have c21b0:=eq_true c21;have c21b1:=dT c21;try have c21b2:(9223372036854775807 < x3_3.size+4+((rd_T51 ((rd_T40 l0 x4_1).f1) x6_3).f1).size)=False:=eq_false (Nat.not_lt.2 c21)
            replace H:=iteN H;obtain ⟨c22,H⟩:=H;have c22b0:=eq_true c22;have c22b1:=dT c22;try have c22b2:(9223372036854775807 < x3_3.size+4+((rd_T51 ((rd_T40 l0 x4_1).f1) x6_3).f1).size+1)=False:=eq_false (Nat.not_lt.2 c22)
            have H':=A_ H;clear H;obtain ⟨⟨ad248,A248_0,c248_0,A248_1,c248_1,e248,hx248_0,hx248_1,hx248_2,hl248_0,hi248_0,hl248_1,hi248_1⟩,p248,q248⟩:=atB (at_T40 HR0.out x4_1);obtain rfl:ad245=ad248:=(by injection e248);obtain ⟨hx248_0,hx248_1,hx248_2⟩:=cb3 HB hx248_0 hx248_1 hx248_2;have HR248_0:=A_ hi248_0;have HC248_0:=A_ hl248_0;clear hi248_0 hl248_0;have HR248_1:=A_ hi248_1;have HC248_1:=A_ hl248_1;clear hi248_1 hl248_1;obtain ⟨⟨ad249,A249_0,c249_0,A249_1,c249_1,e249,hx249_0,hx249_1,hx249_2,hl249_0,hi249_0,hl249_1,hi249_1⟩,p249,q249⟩:=atB (at_T40 HR0.out x4_1);obtain rfl:ad245=ad249:=(by injection e249);obtain ⟨hx249_0,hx249_1,hx249_2⟩:=cb3 HB hx249_0 hx249_1 hx249_2;have HR249_0:=A_ hi249_0;have HC249_0:=A_ hl249_0;clear hi249_0 hl249_0;have HR249_1:=A_ hi249_1;have HC249_1:=A_ hl249_1;clear hi249_1 hl249_1;have ea_:=sI (hx248_0.symm.trans hx249_0);injection ea_ with ea_ en_ ec_
            subst ea_;subst ec_;clear en_;have ea_:=sI (hx248_1.symm.trans hx249_1);injection ea_ with ea_ en_ ec_
            subst ea_;subst ec_;clear en_;obtain ⟨⟨ad250,e250,hx250_0,hx250_1⟩,p250,q250⟩:=atB (at_T51 HR249_1.out x6_3);(try rw [← Nbq18.out] at hx250_0)
            cases e250
            obtain ⟨hx250_0,hx250_1⟩:=cb2 HB hx250_0 hx250_1;obtain ⟨⟨ad251,A251_0,c251_0,A251_1,c251_1,e251,hx251_0,hx251_1,hx251_2,hl251_0,hi251_0,hl251_1,hi251_1⟩,p251,q251⟩:=atB (at_T40 HR0.out x4_1);obtain rfl:ad245=ad251:=(by injection e251);obtain ⟨hx251_0,hx251_1,hx251_2⟩:=cb3 HB hx251_0 hx251_1 hx251_2;have HR251_0:=A_ hi251_0;have HC251_0:=A_ hl251_0;clear hi251_0 hl251_0;have HR251_1:=A_ hi251_1;have HC251_1:=A_ hl251_1;clear hi251_1 hl251_1;have ea_:=sI (hx248_0.symm.trans hx251_0);injection ea_ with ea_ en_ ec_
            subst ea_;subst ec_;clear en_;have ea_:=sI (hx248_1.symm.trans hx251_1);injection ea_ with ea_ en_ ec_
            subst ea_;subst ec_;clear en_;obtain ⟨⟨ad252,e252,hx252_0,hx252_1⟩,p252,q252⟩:=atB (at_T51 HR251_1.out x6_3);(try rw [← Nbq18.out] at hx252_0)
            cases e252
            obtain ⟨hx252_0,hx252_1⟩:=cb2 HB hx252_0 hx252_1;go_wp2
            go_roundg k3
            case measure=>have:=HK1.out;have:=HK2.out;have:=HK3.out;omega
            case rel=>exact ⟨(((x3_3++(⟨#[108,101,116,32]⟩:ByteArray))++((rd_T51 ((rd_T40 l0 x4_1).f1) x6_3).f1))++(⟨#[10]⟩:ByteArray)),(wrap64 (x6_3+1)),zz2,zz2,H',⟨(zz42 HK1 HK2 HK3)⟩,⟨(zz12 HB)⟩⟩
           ·replace H:=iteN H
            obtain ⟨c23,H⟩:=H;have c23b0:=eq_true c23;have c23b1:=dT c23;try have c23b2:(9223372036854775807 < x3_3.size+4)=False:=eq_false (Nat.not_lt.2 c23)
            replace H:=iteN H;obtain ⟨c24,H⟩:=H;have c24b0:=eq_true c24;have c24b1:=dT c24;try have c24b2:(9223372036854775807 < x3_3.size+4+((rd_T51 ((rd_T40 l0 x4_1).f1) x6_3).f1).size)=False:=eq_false (Nat.not_lt.2 c24)
            replace H:=iteN H;obtain ⟨c25,H⟩:=H;have c25b0:=eq_true c25;have c25b1:=dT c25;try have c25b2:(9223372036854775807 < x3_3.size+4+((rd_T51 ((rd_T40 l0 x4_1).f1) x6_3).f1).size+1)=False:=eq_false (Nat.not_lt.2 c25)
            have H':=A_ H;clear H;obtain ⟨⟨ad248,A248_0,c248_0,A248_1,c248_1,e248,hx248_0,hx248_1,hx248_2,hl248_0,hi248_0,hl248_1,hi248_1⟩,p248,q248⟩:=atB (at_T40 HR0.out x4_1);obtain rfl:ad245=ad248:=(by injection e248);obtain ⟨hx248_0,hx248_1,hx248_2⟩:=cb3 HB hx248_0 hx248_1 hx248_2;have HR248_0:=A_ hi248_0;have HC248_0:=A_ hl248_0;clear hi248_0 hl248_0;have HR248_1:=A_ hi248_1;have HC248_1:=A_ hl248_1;clear hi248_1 hl248_1;obtain ⟨⟨ad249,A249_0,c249_0,A249_1,c249_1,e249,hx249_0,hx249_1,hx249_2,hl249_0,hi249_0,hl249_1,hi249_1⟩,p249,q249⟩:=atB (at_T40 HR0.out x4_1);obtain rfl:ad245=ad249:=(by injection e249);obtain ⟨hx249_0,hx249_1,hx249_2⟩:=cb3 HB hx249_0 hx249_1 hx249_2;have HR249_0:=A_ hi249_0;have HC249_0:=A_ hl249_0;clear hi249_0 hl249_0;have HR249_1:=A_ hi249_1;have HC249_1:=A_ hl249_1;clear hi249_1 hl249_1;have ea_:=sI (hx248_0.symm.trans hx249_0);injection ea_ with ea_ en_ ec_
            subst ea_;subst ec_;clear en_;have ea_:=sI (hx248_1.symm.trans hx249_1);injection ea_ with ea_ en_ ec_
            subst ea_;subst ec_;clear en_;obtain ⟨⟨ad250,e250,hx250_0,hx250_1⟩,p250,q250⟩:=atB (at_T51 HR249_1.out x6_3);(try rw [← Nbq18.out] at hx250_0)
            cases e250
            obtain ⟨hx250_0,hx250_1⟩:=cb2 HB hx250_0 hx250_1;obtain ⟨⟨ad253,A253_0,c253_0,A253_1,c253_1,e253,hx253_0,hx253_1,hx253_2,hl253_0,hi253_0,hl253_1,hi253_1⟩,p253,q253⟩:=atB (at_T40 HR0.out x4_1);obtain rfl:ad245=ad253:=(by injection e253);obtain ⟨hx253_0,hx253_1,hx253_2⟩:=cb3 HB hx253_0 hx253_1 hx253_2;have HR253_0:=A_ hi253_0;have HC253_0:=A_ hl253_0;clear hi253_0 hl253_0;have HR253_1:=A_ hi253_1;have HC253_1:=A_ hl253_1;clear hi253_1 hl253_1;have ea_:=sI (hx248_0.symm.trans hx253_0);injection ea_ with ea_ en_ ec_
            subst ea_;subst ec_;clear en_;have ea_:=sI (hx248_1.symm.trans hx253_1);injection ea_ with ea_ en_ ec_
            subst ea_;subst ec_;clear en_;obtain ⟨⟨ad254,e254,hx254_0,hx254_1⟩,p254,q254⟩:=atB (at_T51 HR253_1.out x6_3);(try rw [← Nbq18.out] at hx254_0)
            cases e254
            obtain ⟨hx254_0,hx254_1⟩:=cb2 HB hx254_0 hx254_1;go_wp2
            go_roundg k3
            case measure=>have:=HK1.out;have:=HK2.out;have:=HK3.out;omega
            case rel=>exact ⟨(((x3_3++(⟨#[98,97,114,32]⟩:ByteArray))++((rd_T51 ((rd_T40 l0 x4_1).f1) x6_3).f1))++(⟨#[10]⟩:ByteArray)),(wrap64 (x6_3+1)),zz2,zz2,H',⟨(zz42 HK1 HK2 HK3)⟩,⟨(zz12 HB)⟩⟩
          ·replace H:=iteEg H
           rcases H with ⟨c26b0,H⟩|⟨c26b0,H⟩
           ·replace H:=iteN H
            obtain ⟨c27,H⟩:=H;have c27b0:=eq_true c27;have c27b1:=dT c27;try have c27b2:(9223372036854775807 < x3_3.size+5)=False:=eq_false (Nat.not_lt.2 c27)
            replace H:=bindA H;obtain ⟨t257,A28,H⟩:=H;replace H:=iteN H;obtain ⟨c29,H⟩:=H;have c29b0:=eq_true c29;have c29b1:=dT c29;try have c29b2:(9223372036854775807 < x3_3.size+5+t257.size)=False:=eq_false (Nat.not_lt.2 c29)
            replace H:=iteN H;obtain ⟨c30,H⟩:=H;have c30b0:=eq_true c30;have c30b1:=dT c30;try have c30b2:(9223372036854775807 < x3_3.size+5+t257.size+1)=False:=eq_false (Nat.not_lt.2 c30)
            have H':=A_ H;clear H;obtain ⟨⟨ad248,A248_0,c248_0,A248_1,c248_1,e248,hx248_0,hx248_1,hx248_2,hl248_0,hi248_0,hl248_1,hi248_1⟩,p248,q248⟩:=atB (at_T40 HR0.out x4_1);obtain rfl:ad245=ad248:=(by injection e248);obtain ⟨hx248_0,hx248_1,hx248_2⟩:=cb3 HB hx248_0 hx248_1 hx248_2;have HR248_0:=A_ hi248_0;have HC248_0:=A_ hl248_0;clear hi248_0 hl248_0;have HR248_1:=A_ hi248_1;have HC248_1:=A_ hl248_1;clear hi248_1 hl248_1;obtain ⟨⟨ad255,A255_0,c255_0,A255_1,c255_1,e255,hx255_0,hx255_1,hx255_2,hl255_0,hi255_0,hl255_1,hi255_1⟩,p255,q255⟩:=atB (at_T40 HR0.out x4_1);obtain rfl:ad245=ad255:=(by injection e255);obtain ⟨hx255_0,hx255_1,hx255_2⟩:=cb3 HB hx255_0 hx255_1 hx255_2;have HR255_0:=A_ hi255_0;have HC255_0:=A_ hl255_0;clear hi255_0 hl255_0;have HR255_1:=A_ hi255_1;have HC255_1:=A_ hl255_1;clear hi255_1 hl255_1;have ea_:=sI (hx248_0.symm.trans hx255_0);injection ea_ with ea_ en_ ec_
            subst ea_;subst ec_;clear en_;have ea_:=sI (hx248_1.symm.trans hx255_1);injection ea_ with ea_ en_ ec_
            subst ea_;subst ec_;clear en_;obtain ⟨⟨ad256,A256_0,c256_0,A256_1,c256_1,e256,hx256_0,hx256_1,hx256_2,hl256_0,hi256_0,hl256_1,hi256_1⟩,p256,q256⟩:=atB (at_T40 HR0.out x4_1);obtain rfl:ad245=ad256:=(by injection e256);obtain ⟨hx256_0,hx256_1,hx256_2⟩:=cb3 HB hx256_0 hx256_1 hx256_2;have HR256_0:=A_ hi256_0;have HC256_0:=A_ hl256_0;clear hi256_0 hl256_0;have HR256_1:=A_ hi256_1;have HC256_1:=A_ hl256_1;clear hi256_1 hl256_1;have ea_:=sI (hx248_0.symm.trans hx256_0);injection ea_ with ea_ en_ ec_
            subst ea_;subst ec_;clear en_;have ea_:=sI (hx248_1.symm.trans hx256_1);injection ea_ with ea_ en_ ec_
            subst ea_;subst ec_;clear en_;go_wp2_with (first|(refine gR 17 (some 85) Tryd.func17 (spec_l6Dec.calls k3 ((rd_T40 l0 x4_1).f2) t257 _ A28.out) ?_;rintro w31 hb;replace HB:=A_ (bS (zz12 HB) hb);(try clear hb)))
            go_roundg k3
            case measure=>have:=HK1.out;have:=HK2.out;have:=HK3.out;omega
            case rel=>exact ⟨(((x3_3++(⟨#[119,97,105,116,32]⟩:ByteArray))++t257)++(⟨#[10]⟩:ByteArray)),(wrap64 (x4_1+1)),zz2,zz2,H',⟨(zz42 HK1 HK2 HK3)⟩,⟨(zz12 HB)⟩⟩
           ·have H':=A_ H
            clear H;obtain ⟨⟨ad248,A248_0,c248_0,A248_1,c248_1,e248,hx248_0,hx248_1,hx248_2,hl248_0,hi248_0,hl248_1,hi248_1⟩,p248,q248⟩:=atB (at_T40 HR0.out x4_1);obtain rfl:ad245=ad248:=(by injection e248);obtain ⟨hx248_0,hx248_1,hx248_2⟩:=cb3 HB hx248_0 hx248_1 hx248_2;have HR248_0:=A_ hi248_0;have HC248_0:=A_ hl248_0;clear hi248_0 hl248_0;have HR248_1:=A_ hi248_1;have HC248_1:=A_ hl248_1;clear hi248_1 hl248_1;obtain ⟨⟨ad255,A255_0,c255_0,A255_1,c255_1,e255,hx255_0,hx255_1,hx255_2,hl255_0,hi255_0,hl255_1,hi255_1⟩,p255,q255⟩:=atB (at_T40 HR0.out x4_1);obtain rfl:ad245=ad255:=(by injection e255);obtain ⟨hx255_0,hx255_1,hx255_2⟩:=cb3 HB hx255_0 hx255_1 hx255_2;have HR255_0:=A_ hi255_0;have HC255_0:=A_ hl255_0;clear hi255_0 hl255_0;have HR255_1:=A_ hi255_1;have HC255_1:=A_ hl255_1;clear hi255_1 hl255_1;have ea_:=sI (hx248_0.symm.trans hx255_0);injection ea_ with ea_ en_ ec_
            subst ea_;subst ec_;clear en_;have ea_:=sI (hx248_1.symm.trans hx255_1);injection ea_ with ea_ en_ ec_
            subst ea_;subst ec_;clear en_;go_wp2
            go_roundg k3
            case measure=>have:=HK1.out;have:=HK2.out;have:=HK3.out;omega
            case rel=>exact ⟨(x3_3),(wrap64 (x4_1+1)),zz2,zz2,H',⟨(zz42 HK1 HK2 HK3)⟩,⟨(zz12 HB)⟩⟩
    ·(first|rw [c6b0]|(simp only [i64_w,i32_w];rw [c6b0])|skip)
     obtain rfl:=sI H;go_wp2
     go_ret
     exact ⟨zz8,(zz12 HB)⟩
 ·obtain rfl:=sI H
  go_wp2
  go_ret
  exact ⟨zz8,(zz12 HB)⟩
mutual
def impl_RuleOk.j0:Nat→ByteArray→Bool→Option (Bool)
 | 0,_,_=>none
 | k+1,x0,x17=>if x17=true then (some false) else ((strings_TrimSuffix.f x0 (⟨#[36]⟩:ByteArray)).bind fun t200=>(impl_RuleOk.l0 k t200 0))
def impl_RuleOk.l0:Nat→ByteArray→Int→Option (Bool)
 | 0,_,_=>none
 | k+1,x3,x4=>if x4 < (x3.size:Int) then (if 0≤x4 then ((impl_isPatternByte.f (bt x3 x4)).bind fun t201=>(if t201=true then (impl_RuleOk.l0 k x3 (wrap64 (x4+1))) else (some false))) else (none)) else (some true)
end
def impl_RuleOk.f (k:Nat) (a0:ByteArray):Option (Bool):=if (a0.size:Int) < 1 then (impl_RuleOk.j0 k a0 true) else (if (a0.size:Int) > 16 then (impl_RuleOk.j0 k a0 true) else (if 0 < (a0.size:Int) then (impl_RuleOk.j0 k a0 ((bt a0 0) != 47)) else (none)))
theorem impl_RuleOk.calls (k:Nat) (a0:ByteArray) (r:Bool) (w:World) (h:impl_RuleOk.f k a0=some r) :
  Calls Tryd.prog 36 #[.string a0] w fun e w'=>e=.returned (.bool r)∧Drawn0 w w':=by
 unfold impl_RuleOk.f at h
 have H:=h;clear h;have HC2:=A_ H;clear H;go_enter Tryd.func36,Tryd.ntmps36;go_upto_region 1 with (fail)
 go_cut [17] (fun v17 wc=>∃ (kq:Nat) (x17_1:Bool),v17=.bool x17_1∧Aside0 (impl_RuleOk.j0 kq a0 x17_1=some r)∧Aside0 (kq≤k)∧Drawn0 w wc)
 case first=>
  obtain ⟨H⟩:=HC2;replace H:=iteE H;rcases H with ⟨c3,H⟩|⟨c3,H⟩
  ·have c3b0:=dT c3
   have c3b1:decide (a0.size < 1)=true:=dT (by omega);clear c3;(first|rw [c3b0]|(simp only [i64_w,i32_w];rw [c3b0])|skip)
   have H':=A_ H;clear H;go_wp2
   go_meet
   case rel=>exact ⟨_,(true),zz2,H',⟨zz3⟩,zz16⟩
  ·have c3b0:=dF c3
   have c3b1:decide (a0.size < 1)=false:=dF (by omega);clear c3;(first|rw [c3b0]|(simp only [i64_w,i32_w];rw [c3b0])|skip)
   replace H:=iteE H;rcases H with ⟨c4,H⟩|⟨c4,H⟩
   ·have c4b0:=gtT c4
    have c4b1:decide (16 < a0.size)=true:=dT (by omega);clear c4;have H':=A_ H;clear H;go_wp2
    go_meet
    case rel=>exact ⟨_,(true),zz2,H',⟨zz3⟩,zz16⟩
   ·have c4b0:=gtF c4
    have c4b1:decide (16 < a0.size)=false:=dF (by omega);clear c4;replace H:=iteN H;obtain ⟨c5,H⟩:=H;have c5b0:=dT c5;have c5b1:decide (0 < a0.size)=true:=dT (by omega);clear c5;have H':=A_ H;clear H;have p6:0≤(0:Int):=(by omega);have q6:0 < a0.size:=(by have:(0:Int) < (a0.size:Int):=ofD;omega);have hx6:∀ h:0 < a0.size,((a0[0]'h).toNat:Int)=bt a0 0:=bt_at a0 0;clear p6;have qi6:(0 < (a0.size:Int))=True:=eq_true ofD;replace q6:=eq_true q6;go_wp2
    go_meet
    case rel=>exact ⟨_,(((bt a0 0) != 47)),zz2,H',⟨zz3⟩,zz16⟩
 case rest=>
  clear HC2;obtain ⟨kq,x17_1,rfl,HA,HJ1,⟨mc1,rfl⟩⟩:=hcut;cases kq with
  | zero=>exact absurd HA.out (by simp [impl_RuleOk.j0])
  | succ kj1=>
   obtain ⟨H⟩:=HA;simp only [impl_RuleOk.j0] at H
   replace H:=iteB H;rcases H with ⟨rfl,H⟩|⟨rfl,H⟩
   ·obtain rfl:=sI H
    go_wp2
    go_ret
    exact ⟨zz2,zz16⟩
   ·replace H:=bindA H
    obtain ⟨t200,A8,H⟩:=H;have H':=A_ H;clear H;go_wp2_with (first|(refine gR 46 (some 19) Tryd.func46 (strings_TrimSuffix.calls a0 (⟨#[36]⟩:ByteArray) t200 _ A8.out) ?_;rintro w' ⟨nd,rfl⟩))
    go_loopg [4] kj1 (fun kq v4 w'=>∃ (x4_2:Int),v4=.int .i64 x4_2∧Aside0 (impl_RuleOk.l0 kq t200 x4_2=some r)∧Aside0 (kq≤kj1)∧Drawn0 w w')
    case atStart=>exact ⟨(0),zz2,H',⟨Nat.le_refl _⟩,zz16⟩
    case round=>
     clear H';obtain ⟨x4_2,rfl,HA,HK2,⟨m2,rfl⟩⟩:=hrel;cases gk with
     | zero=>exact absurd HA.out (by simp [impl_RuleOk.l0])
     | succ k2=>
      obtain ⟨H⟩:=HA;simp only [impl_RuleOk.l0] at H
      replace H:=iteEd H;rcases H with ⟨c9b0,H⟩|⟨c9b0,H⟩
      ·replace H:=iteNd H
       obtain ⟨c10b0,H⟩:=H;replace H:=bindA H;obtain ⟨t201,A12,H⟩:=H;have HF13:=A_ H;clear H;have p11:0≤(x4_2:Int):=ofD;have q11:x4_2 < (t200.size:Int):=ofD;have hx11:=bt_at t200 x4_2;replace p11:=eq_true p11;replace q11:=eq_true q11;go_upto_if 30 with (first|(refine gR 47 (some 29) Tryd.func47 (impl_isPatternByte.calls (bt t200 x4_2) t201 _ A12.out) ?_;rintro w' ⟨nd,rfl⟩))
       obtain ⟨H⟩:=HF13;replace H:=iteB H;rcases H with ⟨rfl,H⟩|⟨rfl,H⟩
       ·have H':=A_ H
        clear H;go_wp2
        go_roundg k2
        case measure=>have:=HJ1.out;have:=HK2.out;omega
        case rel=>exact ⟨(wrap64 (x4_2+1)),zz2,H',⟨(zz31 HJ1 HK2)⟩,zz16⟩
       ·obtain rfl:=sI H
        go_wp2
        go_ret
        exact ⟨zz2,zz16⟩
      ·obtain rfl:=sI H
       go_wp2
       go_ret
       exact ⟨zz2,zz16⟩
def impl_rulesOk.l0:Nat→List (S51)→Int→Int→Option (Bool)
 | 0,_,_,_=>none
 | k+1,x5,x6,x7=>if x7 < x6 then (if 0≤x7 then (if x7 < (x5.length:Int) then ((impl_RuleOk.f k ((rd_T51 x5 x7).f1)).bind fun t204=>(if t204=true then (impl_rulesOk.l0 k x5 x6 (wrap64 (x7+1))) else (some false))) else (none)) else (none)) else (some true)
def impl_rulesOk.f (k:Nat) (l0:List (S51)):Option (Bool):=impl_rulesOk.l0 k l0 (l0.length:Int) 0
theorem impl_rulesOk.calls (k:Nat) (A0:Option Addr) (c0:Nat) (l0:List (S51)) (r:Bool) (w:World) (hr0:Kd.C k51 w A0 l0.length l0) (hc0:l0.length≤c0) (h:impl_rulesOk.f k l0=some r) :
  Calls Tryd.prog 39 #[.slice A0 l0.length c0] w fun e w'=>e=.returned (.bool r)∧Below w.heap.size w w':=by
 have hu51:=Tryd.underlying51;have HR0:=A_ hr0;have HC0:=A_ hc0;clear hr0 hc0;have HB:=A_ (Below.refl w.heap.size w);unfold impl_rulesOk.f at h
 have H:=h;clear h;have H':=A_ H;clear H;go_enter Tryd.func39,Tryd.ntmps39;go_wp2
 go_loopg [7] k (fun kq v7 w'=>∃ (x7_1:Int),v7=.int .i64 x7_1∧Aside0 (impl_rulesOk.l0 kq l0 (l0.length:Int) x7_1=some r)∧Aside0 (kq≤k)∧Aside0 (Below w.heap.size w w'))
 case atStart=>exact ⟨(0),zz2,H',⟨Nat.le_refl _⟩,⟨(zz12 HB)⟩⟩
 case round=>
  clear H';obtain ⟨x7_1,rfl,HA,HK1,HB⟩:=hrel;cases gk with
  | zero=>exact absurd HA.out (by simp [impl_rulesOk.l0])
  | succ k1=>
   obtain ⟨H⟩:=HA;simp only [impl_rulesOk.l0] at H
   replace H:=iteEd H;rcases H with ⟨c2b0,H⟩|⟨c2b0,H⟩
   ·replace H:=iteNd H
    obtain ⟨c3b0,H⟩:=H;replace H:=iteNd H;obtain ⟨c4b0,H⟩:=H;replace H:=bindA H;obtain ⟨t204,A5,H⟩:=H;have HF6:=A_ H;clear H;obtain ⟨⟨ad202,e202,hx202_0,hx202_1⟩,p202,q202⟩:=atB (at_T51 HR0.out x7_1);cases e202
    obtain ⟨hx202_0,hx202_1⟩:=cb2 HB hx202_0 hx202_1;go_upto_if 14 with (first|(refine boxF 4 #[.bool false,.string (⟨#[]⟩:ByteArray)] 51 ?_;intro gb203 hg w7 BK203 hb;have GE203:=geB hg (zz12 HB);replace HB:=A_ (bS (zz12 HB) hb);clear hb hg;obtain ⟨_,_,_,_⟩:=cf2 BK203)|((with_reducible refine gate_store (t:=51) (p:=4) rfl ?_);refine store_event (t:=51) (p:=4) (v:=?vo_w9) (w1:=((w7.setCell ⟨gb203,0,none⟩ (.bool ((rd_T51 l0 x7_1).f0))).setCell ⟨gb203,1,none⟩ (.string ((rd_T51 l0 x7_1).f1)))) ?hg ?ho ?hn ?hr ?_;(case ho=>rfl);(case hg=>rfl);(case hn=>rfl);(case hr=>exact zz13);intro w9 hw;have n0_:Aside0 (w9.heap[gb203]?=some (.cells #[.bool ((rd_T51 l0 x7_1).f0),.string ((rd_T51 l0 x7_1).f1)] 51 (0,0))):=⟨(by rw [hw];exact (zz30 BK203))⟩;have n1_:Aside0 (Below w.heap.size w w9):=⟨(by rw [hw];exact (zz24 HB GE203))⟩;clear hw;clear BK203;clear HB;have BK203:=n0_;have HB:=n1_;clear n0_ n1_;obtain ⟨_,_,_,_⟩:=cf2 BK203)|(refine gR 36 (some 13) Tryd.func36 (impl_RuleOk.calls k1 ((rd_T51 l0 x7_1).f1) t204 _ A5.out) ?_;rintro w' ⟨nd,rfl⟩))
    obtain ⟨H⟩:=HF6;replace H:=iteB H;rcases H with ⟨rfl,H⟩|⟨rfl,H⟩
    ·have H':=A_ H
     clear H;go_wp2
     go_roundg k1
     case measure=>have:=HK1.out;omega
     case rel=>exact ⟨(wrap64 (x7_1+1)),zz2,H',⟨(zz18 HK1)⟩,⟨(zz24 HB GE203)⟩⟩
    ·obtain rfl:=sI H
     go_wp2
     go_ret
     exact ⟨zz8,(zz24 HB GE203)⟩
   ·obtain rfl:=sI H
    go_wp2
    go_ret
    exact ⟨zz8,(zz12 HB)⟩
def spec_l6Rd_of.f (k:Nat) (s0_0:List Int) (s0_1:Int) (l1:List ByteArray):Option (ByteArray×Int):=(spec_l6Rd_pick.f k s0_0 s0_1 (l1.length:Int)).bind fun bt104=>(if 0≤bt104.1 then (if bt104.1 < (l1.length:Int) then (some (rdOf ByteArray.empty l1 bt104.1,bt104.2)) else (none)) else (none))
theorem spec_l6Rd_of.calls (k:Nat) (g:Nat) (s0_0:List Int) (s0_1:Int) (A1:Option Addr) (c1:Nat) (l1:List ByteArray) (r1:ByteArray) (r2:Int) (w0 w:World) (hI:IsS66 w0 w g s0_0 s0_1) (hB:Below w0.heap.size w0 w) (hr1:Kd.C Kd.string w A1 l1.length l1) (hc1:l1.length≤c1) (hf1:∀ ad,A1=some ad→0 < l1.length→ad.block≠g) (h:spec_l6Rd_of.f k s0_0 s0_1 l1=some (r1,r2)) :
  Calls Tryd.prog 26 #[.pointer (some ⟨g,0,none⟩),.slice A1 l1.length c1] w fun e w'=>e=.returned (.string r1)∧IsS66 w0 w' g s0_0 r2∧Below w0.heap.size w0 w'∧KeepBut w w' g none:=by
 have HR1:=A_ hr1;have HC1:=A_ hc1;clear hr1 hc1;have HI0:=A_ hI;have HK:=A_ (KeepBut.refl w g none);have HL:=A_ hB.size;clear hI;have HW0:=A_ hB.size;have HB:=A_ hB;clear hB;unfold spec_l6Rd_of.f at h
 have H:=h;clear h;replace H:=bindA H;obtain ⟨⟨t104,t105⟩,A3,H⟩:=H;try dsimp only at H
 replace H:=iteE H;rcases H with ⟨c4,H⟩|⟨c4,H⟩
 ·have c4b0:=dT c4
  clear c4;replace H:=iteNd H;obtain ⟨c5b0,H⟩:=H;simp only [Option.some.injEq,Prod.mk.injEq] at H
  obtain ⟨rfl,rfl⟩:=H;go_enter Tryd.func26,Tryd.ntmps26;go_wp2_with (first|(refine gR 25 (some 9) Tryd.func25 (spec_l6Rd_pick.calls k g s0_0 s0_1 (l1.length:Int) t104 t105 w0 _ ?side1 ?side2 A3.out) ?_;(case side1=>exact (zz4 HI0));(case side2=>exact (zz6 HB HI0));rintro w6 ⟨hi,hb,hk⟩;replace HK:=A_ (KeepBut.trans (zz5 HK) hk (.inl rfl));replace HB:=A_ (hb);replace HI0:=A_ (hi);(try clear hb hk hi);have p106:0≤(t104:Int):=ofD;have q106:t104 < (l1.length:Int):=ofD;obtain ⟨ad106,e106,hx106_0⟩:=Kd.at_string HR1.out t104 p106 q106;cases e106;replace hx106_0:=keep_cell HK.out hx106_0 (by first|(rw [add_block];exact hf1 _ rfl (by omega))|exact hf1 _ rfl (by omega)|exact hf1 ad106 rfl (by omega));replace p106:=eq_true p106;replace q106:=eq_true q106))
  go_ret
  exact ⟨zz8,(zz4 HI0),(zz6 HB HI0),(zz5 HK)⟩
 ·exact absurd H (by simp)
def impl_isName.f (k:Nat) (a0:ByteArray):Option (Bool):=if (a0.size:Int) ≥ 1 then (if (a0.size:Int)≤8 then ((impl_allSmallLetters.f k a0).bind fun t195=>(some t195)) else (some false)) else (some false)
theorem impl_isName.calls (k:Nat) (a0:ByteArray) (r:Bool) (w:World) (h:impl_isName.f k a0=some r) :
  Calls Tryd.prog 45 #[.string a0] w fun e w'=>e=.returned (.bool r)∧Drawn0 w w':=by
 unfold impl_isName.f at h
 have H:=h;clear h;replace H:=iteE H;rcases H with ⟨c2,H⟩|⟨c2,H⟩
 ·have c2b0:=geT c2
  have c2b1:decide (1≤a0.size)=true:=dT (by omega);clear c2;replace H:=iteE H;rcases H with ⟨c3,H⟩|⟨c3,H⟩
  ·have c3b0:=dT c3
   have c3b1:decide (a0.size≤8)=true:=dT (by omega);clear c3;replace H:=bindA H;obtain ⟨t195,A4,H⟩:=H;obtain rfl:=sI H;go_enter Tryd.func45,Tryd.ntmps45;go_wp2_with (first|(go_at_call 52;(with_reducible refine (impl_allSmallLetters.calls k a0 t195 _ A4.out).mono ?_);rintro e w' ⟨rfl,⟨nd,rfl⟩⟩))
   go_ret
   exact ⟨zz2,zz16⟩
  ·have c3b0:=dF c3
   have c3b1:decide (a0.size≤8)=false:=dF (by omega);clear c3;obtain rfl:=sI H;go_enter Tryd.func45,Tryd.ntmps45;go_wp2
   go_ret
   exact ⟨zz2,zz16⟩
 ·have c2b0:=geF c2
  have c2b1:decide (1≤a0.size)=false:=dF (by omega);clear c2;obtain rfl:=sI H;go_enter Tryd.func45,Tryd.ntmps45;go_wp2
  go_ret
  exact ⟨zz2,zz16⟩
def impl_isGroupName.f (k:Nat) (a0:ByteArray):Option (Bool):=if a0.toList=([42]:List UInt8) then (some true) else ((impl_isName.f k a0).bind fun t196=>(some t196))
theorem impl_isGroupName.calls (k:Nat) (a0:ByteArray) (r:Bool) (w:World) (h:impl_isGroupName.f k a0=some r) :
  Calls Tryd.prog 35 #[.string a0] w fun e w'=>e=.returned (.bool r)∧Drawn0 w w':=by
 unfold impl_isGroupName.f at h
 have H:=h;clear h;replace H:=iteEq H;rcases H with ⟨c2b0,c2b1,H⟩|⟨c2b0,c2b1,c2,H⟩
 ·obtain rfl:=sI H
  go_enter Tryd.func35,Tryd.ntmps35;go_wp2
  go_ret
  exact ⟨zz2,zz16⟩
 ·replace H:=bindA H
  obtain ⟨t196,A3,H⟩:=H;obtain rfl:=sI H;go_enter Tryd.func35,Tryd.ntmps35;go_wp2_with (first|(go_at_call 45;(with_reducible refine (impl_isName.calls k a0 t196 _ A3.out).mono ?_);rintro e w' ⟨rfl,⟨nd,rfl⟩⟩))
  go_ret
  exact ⟨zz2,zz16⟩
def spec_l71Rule.f (k:Nat) (s0_0:List Int) (s0_1:Int):Option (ByteArray×Int):=(spec_l6Rd_of.f k s0_0 s0_1 (([(⟨#[47]⟩:ByteArray),(⟨#[47,97]⟩:ByteArray),(⟨#[47,98]⟩:ByteArray),(⟨#[47,97,47]⟩:ByteArray),(⟨#[47,42,98]⟩:ByteArray),(⟨#[47,97,36]⟩:ByteArray),(⟨#[47,99]⟩:ByteArray),(⟨#[47,42,63]⟩:ByteArray),(⟨#[47,97,47,98]⟩:ByteArray),(⟨#[47,42,47,98,36]⟩:ByteArray),(⟨#[47,36]⟩:ByteArray),(⟨#[47,98,42,99]⟩:ByteArray),(⟨#[47,110,111,116,105,99,101]⟩:ByteArray),(⟨#[47,42]⟩:ByteArray)]:List ByteArray))).bind fun bt110=>(some (bt110.1,bt110.2))
theorem spec_l71Rule.calls (k:Nat) (g:Nat) (s0_0:List Int) (s0_1:Int) (r1:ByteArray) (r2:Int) (w0 w:World) (hI:IsS66 w0 w g s0_0 s0_1) (hB:Below w0.heap.size w0 w) (h:spec_l71Rule.f k s0_0 s0_1=some (r1,r2)) :
  Calls Tryd.prog 38 #[.pointer (some ⟨g,0,none⟩)] w fun e w'=>e=.returned (.string r1)∧IsS66 w0 w' g s0_0 r2∧Below w0.heap.size w0 w'∧KeepBut w w' g none:=by
 have HI0:=A_ hI;have HK:=A_ (KeepBut.refl w g none);have HL:=A_ hB.size;clear hI;have HW0:=A_ hB.size;have HB:=A_ hB;clear hB;unfold spec_l71Rule.f at h
 have H:=h;clear h;obtain ⟨y107,Ny107⟩:=toY (([(⟨#[47]⟩:ByteArray),(⟨#[47,97]⟩:ByteArray),(⟨#[47,98]⟩:ByteArray),(⟨#[47,97,47]⟩:ByteArray),(⟨#[47,42,98]⟩:ByteArray),(⟨#[47,97,36]⟩:ByteArray),(⟨#[47,99]⟩:ByteArray),(⟨#[47,42,63]⟩:ByteArray),(⟨#[47,97,47,98]⟩:ByteArray),(⟨#[47,42,47,98,36]⟩:ByteArray),(⟨#[47,36]⟩:ByteArray),(⟨#[47,98,42,99]⟩:ByteArray),(⟨#[47,110,111,116,105,99,101]⟩:ByteArray),(⟨#[47,42]⟩:ByteArray)]:List ByteArray));(first|with_reducible replace H:=bindZ Ny107 H|rw [← Ny107.out] at H|skip)
 replace H:=bindA H;obtain ⟨⟨t110,t111⟩,A2,H⟩:=H;try dsimp only at H
 simp only [Option.some.injEq,Prod.mk.injEq] at H
 obtain ⟨rfl,rfl⟩:=H;go_enter Tryd.func38,Tryd.ntmps38;go_wp2_with (first|((with_reducible refine gD (N:=4) rfl ?_);refine Kd.R_lit Kd.string _ 9 ?hg (N:=4) ?hd (xs:=([(⟨#[47]⟩:ByteArray),(⟨#[47,97]⟩:ByteArray),(⟨#[47,98]⟩:ByteArray),(⟨#[47,97,47]⟩:ByteArray),(⟨#[47,42,98]⟩:ByteArray),(⟨#[47,97,36]⟩:ByteArray),(⟨#[47,99]⟩:ByteArray),(⟨#[47,42,63]⟩:ByteArray),(⟨#[47,97,47,98]⟩:ByteArray),(⟨#[47,42,47,98,36]⟩:ByteArray),(⟨#[47,36]⟩:ByteArray),(⟨#[47,98,42,99]⟩:ByteArray),(⟨#[47,110,111,116,105,99,101]⟩:ByteArray),(⟨#[47,42]⟩:ByteArray)]:List ByteArray)) (inner:=[.string (⟨#[47]⟩:ByteArray),.string (⟨#[47,97]⟩:ByteArray),.string (⟨#[47,98]⟩:ByteArray),.string (⟨#[47,97,47]⟩:ByteArray),.string (⟨#[47,42,98]⟩:ByteArray),.string (⟨#[47,97,36]⟩:ByteArray),.string (⟨#[47,99]⟩:ByteArray),.string (⟨#[47,42,63]⟩:ByteArray),.string (⟨#[47,97,47,98]⟩:ByteArray),.string (⟨#[47,42,47,98,36]⟩:ByteArray),.string (⟨#[47,36]⟩:ByteArray),.string (⟨#[47,98,42,99]⟩:ByteArray),.string (⟨#[47,110,111,116,105,99,101]⟩:ByteArray),.string (⟨#[47,42]⟩:ByteArray)]) (ok:=fun _=>True) (okp:=fun _=>True) ?hr ?hp (fun _ hk=>hk) trivial (Below.refl _ _) (Nat.le_refl _) (by simp) ?_;(case hd=>rfl);(case hg=>rfl);(case hr=>exact zz13);(case hp=>exact (Reps.one (show Kd.M Kd.string _ _ _ (⟨#[47]⟩:ByteArray) [.string (⟨#[47]⟩:ByteArray)] from rfl) (Reps.one (show Kd.M Kd.string _ _ _ (⟨#[47,97]⟩:ByteArray) [.string (⟨#[47,97]⟩:ByteArray)] from rfl) (Reps.one (show Kd.M Kd.string _ _ _ (⟨#[47,98]⟩:ByteArray) [.string (⟨#[47,98]⟩:ByteArray)] from rfl) (Reps.one (show Kd.M Kd.string _ _ _ (⟨#[47,97,47]⟩:ByteArray) [.string (⟨#[47,97,47]⟩:ByteArray)] from rfl) (Reps.one (show Kd.M Kd.string _ _ _ (⟨#[47,42,98]⟩:ByteArray) [.string (⟨#[47,42,98]⟩:ByteArray)] from rfl) (Reps.one (show Kd.M Kd.string _ _ _ (⟨#[47,97,36]⟩:ByteArray) [.string (⟨#[47,97,36]⟩:ByteArray)] from rfl) (Reps.one (show Kd.M Kd.string _ _ _ (⟨#[47,99]⟩:ByteArray) [.string (⟨#[47,99]⟩:ByteArray)] from rfl) (Reps.one (show Kd.M Kd.string _ _ _ (⟨#[47,42,63]⟩:ByteArray) [.string (⟨#[47,42,63]⟩:ByteArray)] from rfl) (Reps.one (show Kd.M Kd.string _ _ _ (⟨#[47,97,47,98]⟩:ByteArray) [.string (⟨#[47,97,47,98]⟩:ByteArray)] from rfl) (Reps.one (show Kd.M Kd.string _ _ _ (⟨#[47,42,47,98,36]⟩:ByteArray) [.string (⟨#[47,42,47,98,36]⟩:ByteArray)] from rfl) (Reps.one (show Kd.M Kd.string _ _ _ (⟨#[47,36]⟩:ByteArray) [.string (⟨#[47,36]⟩:ByteArray)] from rfl) (Reps.one (show Kd.M Kd.string _ _ _ (⟨#[47,98,42,99]⟩:ByteArray) [.string (⟨#[47,98,42,99]⟩:ByteArray)] from rfl) (Reps.one (show Kd.M Kd.string _ _ _ (⟨#[47,110,111,116,105,99,101]⟩:ByteArray) [.string (⟨#[47,110,111,116,105,99,101]⟩:ByteArray)] from rfl) (Reps.one (show Kd.M Kd.string _ _ _ (⟨#[47,42]⟩:ByteArray) [.string (⟨#[47,42]⟩:ByteArray)] from rfl) (Reps.none _ _))))))))))))))));intro v108 w3 ho4 hb hg_ hnew_;clear hg_ hnew_;(first|rw [← Ny107.out] at ho4|(simp only [Int.reduceToNat] at ho4;rw [← Ny107.out] at ho4));have HO109:=A_ (Kd.R_lower ho4 (keep_size (w:=w) (g:=g) (row:=none) (zz5 HK)));replace HK:=A_ (KeepBut.trans (zz5 HK) (KeepBut.of_below hb g none) (.inl rfl));replace HB:=A_ (bS (zz6 HB HI0) hb);replace HI0:=A_ (IsS66.below (zz4 HI0) hb);clear hb ho4;obtain ⟨Ao5,co5,eo5⟩:=Kd.R_slice HO109.out;subst eo5)|(refine gR 26 (some 5) Tryd.func26 (spec_l6Rd_of.calls k g s0_0 s0_1 _ _ y107 t110 t111 w0 _ ?side1 ?side2 ?side3 ?side4 ?side5 A2.out) ?_;(case side1=>exact (zz4 HI0));(case side2=>exact (zz6 HB HI0));(case side3=>exact (zz55 HO109));(case side4=>exact (Kd.R_reads' HO109.out).2.1);(case side5=>exact far_slice (IsS66.own_ne HI0.out HO109.out (by decide)));rintro w6 ⟨hi,hb,hk⟩;replace HO109:=A_ (Kd.R_mono (Kd.R_keep (IsS66.apart (show IsS66 w0 _ g s0_0 s0_1 from (zz4 HI0)) (zz15 HO109) (by decide)) hk (fun _ h=>h.2)) (fun _ h=>h.1));replace HK:=A_ (KeepBut.trans (zz5 HK) hk (.inl rfl));replace HB:=A_ (hb);replace HI0:=A_ (hi);(try clear hb hk hi)))
 go_ret
 exact ⟨zz8,(zz4 HI0),(zz6 HB HI0),(zz5 HK)⟩
def spec_l71Rules.l0:Nat→List (S51)→Int→List Int→Int→Option ((List (S51))×Int)
 | 0,_,_,_,_=>none
 | k+1,x3,x4,x1000,x1001=>if x4 > 0 then ((spec_l6Rd_pick.f k x1000 x1001 2).bind fun bt117=>((spec_l71Rule.f k x1000 bt117.2).bind fun bt119=>(if x3.length < 5864062014805 then (spec_l71Rules.l0 k (x3++[(⟨(bt117.1 == 0),bt119.1⟩:S51)]) (wrap64 (x4 - 1)) x1000 bt119.2) else (none)))) else (some (x3,x1001))
def spec_l71Rules.f (k:Nat) (s0_0:List Int) (s0_1:Int):Option ((List (S51))×Int):=(spec_l6Rd_pick.f k s0_0 s0_1 5).bind fun bt115=>(spec_l71Rules.l0 k (([]:List (S51))) bt115.1 s0_0 bt115.2)
theorem spec_l71Rules.calls (k:Nat) (g:Nat) (s0_0:List Int) (s0_1:Int) (r1:List (S51)) (r2:Int) (w0 w:World) (hI:IsS66 w0 w g s0_0 s0_1) (hB:Below w0.heap.size w0 w) (h:spec_l71Rules.f k s0_0 s0_1=some (r1,r2)) :
  Calls Tryd.prog 27 #[.pointer (some ⟨g,0,none⟩)] w fun e w'=>∃ v0_:Value,e=.returned (v0_)∧Kd.R k51 51 w' w.heap.size (fun _=>True) v0_ r1∧IsS66 w0 w' g s0_0 r2∧Below w0.heap.size w0 w'∧KeepBut w w' g none:=by
 have hu51:=Tryd.underlying51;have HI0:=A_ hI;have HK:=A_ (KeepBut.refl w g none);have HL:=A_ hB.size;clear hI;have HW0:=A_ hB.size;have HB:=A_ hB;clear hB;unfold spec_l71Rules.f at h
 have H:=h;clear h;obtain ⟨y112,Ny112⟩:=toY (([]:List (S51)));(first|with_reducible replace H:=bindZ Ny112 H|rw [← Ny112.out] at H|skip)
 replace H:=bindA H;obtain ⟨⟨t115,t116⟩,A2,H⟩:=H;try dsimp only at H
 have H':=A_ H;clear H;go_enter Tryd.func27,Tryd.ntmps27;go_wp2_with (first|((with_reducible refine gD (N:=5) rfl ?_);refine Kd.R_lit k51 _ 51 ?hg (N:=5) ?hd (xs:=([]:List (S51))) (inner:=[]) (ok:=fun _=>True) (okp:=fun _=>True) ?hr ?hp (fun _ hk=>hk) trivial (Below.refl _ _) (Nat.le_refl _) (by simp) ?_;(case hd=>rfl);(case hg=>rfl);(case hr=>exact zz13);(case hp=>exact (Reps.none _ _));intro v113 w3 ho4 hb hg_ hnew_;clear hg_ hnew_;(first|rw [← Ny112.out] at ho4|(simp only [Int.reduceToNat] at ho4;rw [← Ny112.out] at ho4));have HO114:=A_ (Kd.R_lower ho4 (keep_size (w:=w) (g:=g) (row:=none) (zz5 HK)));replace HK:=A_ (KeepBut.trans (zz5 HK) (KeepBut.of_below hb g none) (.inl rfl));replace HB:=A_ (bS (zz6 HB HI0) hb);replace HI0:=A_ (IsS66.below (zz4 HI0) hb);clear hb ho4)|(refine gR 25 (some 7) Tryd.func25 (spec_l6Rd_pick.calls k g s0_0 s0_1 5 t115 t116 w0 _ ?side1 ?side2 A2.out) ?_;(case side1=>exact (zz4 HI0));(case side2=>exact (zz6 HB HI0));rintro w5 ⟨hi,hb,hk⟩;replace HO114:=A_ (Kd.R_mono (Kd.R_keep (IsS66.apart (show IsS66 w0 _ g s0_0 s0_1 from (zz4 HI0)) (zz15 HO114) (by decide)) hk (fun _ h=>h.2)) (fun _ h=>h.1));replace HK:=A_ (KeepBut.trans (zz5 HK) hk (.inl rfl));replace HB:=A_ (hb);replace HI0:=A_ (hi);(try clear hb hk hi)))
 go_loopg [3,4] k (fun kq v3 v4 w'=>∃ (x3_1:List (S51)) (x4_1:Int) (x1001_1:Int),v4=.int .i64 x4_1∧Aside0 (spec_l71Rules.l0 kq x3_1 x4_1 s0_0 x1001_1=some (r1,r2))∧Aside0 (kq≤k)∧Aside0 (Kd.R k51 51 w' w.heap.size (fun _=>True) v3 x3_1)∧Aside0 (IsS66 w0 w' g s0_0 x1001_1)∧Aside0 (KeepBut w w' g none)∧Aside0 (Below w0.heap.size w0 w'))
 case atStart=>exact ⟨(y112),(t115),(t116),zz2,H',⟨Nat.le_refl _⟩,⟨(zz15 HO114)⟩,⟨(zz4 HI0)⟩,⟨(zz5 HK)⟩,⟨(zz6 HB HI0)⟩⟩
 case round=>
  clear H';obtain ⟨x3_1,x4_1,x1001_1,rfl,HA,HK1,HO_3,HI0,HK,HB⟩:=hrel;cases gk with
  | zero=>exact absurd HA.out (by simp [spec_l71Rules.l0])
  | succ k1=>
   obtain ⟨H⟩:=HA;simp only [spec_l71Rules.l0] at H
   replace H:=iteEg H;rcases H with ⟨c6b0,H⟩|⟨c6b0,H⟩
   ·replace H:=bindA H
    obtain ⟨⟨t117,t118⟩,A7,H⟩:=H;try dsimp only at H
    replace H:=bindA H;obtain ⟨⟨t119,t120⟩,A8,H⟩:=H;try dsimp only at H
    replace H:=iteN H;obtain ⟨c9,H⟩:=H;have LMc9:=A_ c9;clear c9;obtain ⟨y121,Ny121⟩:=toY (x3_1++[(⟨(t117 == 0),t119⟩:S51)]);(first|with_reducible replace H:=bindZ Ny121 H|rw [← Ny121.out] at H|skip)
    have H':=A_ H;clear H;go_wp2_with (first|(refine gR 25 (some 14) Tryd.func25 (spec_l6Rd_pick.calls k1 g s0_0 x1001_1 2 t117 t118 w0 _ ?side1 ?side2 A7.out) ?_;(case side1=>exact (zz4 HI0));(case side2=>exact (zz6 HB HI0));rintro w10 ⟨hi,hb,hk⟩;replace HO_3:=A_ (Kd.R_mono (Kd.R_keep (IsS66.apart (show IsS66 w0 _ g s0_0 x1001_1 from (zz4 HI0)) (zz15 HO_3) (by decide)) hk (fun _ h=>h.2)) (fun _ h=>h.1));replace HK:=A_ (KeepBut.trans (zz5 HK) hk (.inl rfl));replace HB:=A_ (hb);replace HI0:=A_ (hi);(try clear hb hk hi))|(refine gR 38 (some 17) Tryd.func38 (spec_l71Rule.calls k1 g s0_0 t118 t119 t120 w0 _ ?side1 ?side2 A8.out) ?_;(case side1=>exact (zz4 HI0));(case side2=>exact (zz6 HB HI0));rintro w11 ⟨hi,hb,hk⟩;replace HO_3:=A_ (Kd.R_mono (Kd.R_keep (IsS66.apart (show IsS66 w0 _ g s0_0 t118 from (zz4 HI0)) (zz15 HO_3) (by decide)) hk (fun _ h=>h.2)) (fun _ h=>h.1));replace HK:=A_ (KeepBut.trans (zz5 HK) hk (.inl rfl));replace HB:=A_ (hb);replace HI0:=A_ (hi);(try clear hb hk hi))|((with_reducible refine gate_builtin (b:=.append) (xs:=#[.tmp 12,.tmp 19]) rfl ?_);at_builtin;refine Kd.R_append k51 w.heap.size rfl (.tmp 12) (.tmp 19) 38 51 (.agg #[(.bool false),(.string ⟨#[]⟩)]) 24 rfl Tryd.underlying38 info51 rfl (by decide) (by omega) u3 x3_1 (⟨(t117 == 0),t119⟩:S51) [.bool (t117 == 0),.string t119] (fun _=>True) (fun _=>False) rfl rfl ?aP (fun _ hk=>hk.elim) ?aF ?aO (Below.refl _ _) ?aS ?aL ?_;(case aP=>exact k51_mkM _ _ _ (⟨(t117 == 0),t119⟩:S51));(case aF=>exact (fun _ _=>trivial));(case aO=>exact (zz15 HO_3));(case aS=>exact (keep_size (w:=w) (g:=g) (row:=none) (zz5 HK)));(case aL=>exact (zz18 LMc9));intro v122 w12 ho hb hg hat;rw [← Ny121.out] at ho;replace HB:=A_ (below_weaken (zz6 HB HI0) HL.out hb);replace HI0:=A_ (IsS66.grown (zz4 HI0) hg (IsS66.own_ne HI0.out HO_3.out (by decide)));replace HK:=A_ (KeepBut.trans (zz5 HK) (KeepBut.of_grown hg g) (Kd.R_base2 HO_3.out));have HO123:=A_ (ho);clear HO_3;clear ho hb hg hat))
    go_roundg k1
    case measure=>have:=HK1.out;omega
    case rel=>exact ⟨(y121),(wrap64 (x4_1 - 1)),(t120),zz2,H',⟨(zz18 HK1)⟩,⟨(zz15 HO123)⟩,⟨(zz4 HI0)⟩,⟨(zz5 HK)⟩,⟨(zz6 HB HI0)⟩⟩
   ·simp only [Option.some.injEq,Prod.mk.injEq] at H
    obtain ⟨rfl,rfl⟩:=H;go_wp2
    go_ret
    exact ⟨_,zz8,(zz15 HO_3),(zz4 HI0),(zz6 HB HI0),(zz5 HK)⟩
def spec_l71Groups.l0:Nat→List (S40)→Int→List Int→Int→Option ((List (S40))×Int)
 | 0,_,_,_,_=>none
 | k+1,x3,x4,x1000,x1001=>if x4 > 0 then ((spec_l6Rd_of.f k x1000 x1001 (([(⟨#[42]⟩:ByteArray),(⟨#[114,111,118,101,114]⟩:ByteArray),(⟨#[115,99,111,117,116]⟩:ByteArray)]:List ByteArray))).bind fun bt132=>((some (([bt132.1]:List ByteArray):List ByteArray)).bind fun y134=>((spec_l71Rules.f k x1000 bt132.2).bind fun bt137=>((spec_l6Rd_pick.f k x1000 bt137.2 4).bind fun bt141=>((spec_l6Rd_pick.f k x1000 bt141.2 3).bind fun bt143=>((spec_l6Rd_pick.f k x1000 bt143.2 4).bind fun bt146=>(if bt146.1=0 then ((spec_l6Rd_of.f k x1000 bt146.2 (([(⟨#[42]⟩:ByteArray),(⟨#[114,111,118,101,114]⟩:ByteArray),(⟨#[120]⟩:ByteArray)]:List ByteArray))).bind fun bt151=>(if y134.length < 8796093022208 then ((some (y134++[bt151.1]:List ByteArray)).bind fun y153=>(if (bt137.1.length:Int) > 0 then (if x3.length < 2513169434916 then (spec_l71Groups.l0 k (x3++[(⟨y153,bt137.1,wrap64 (bt141.1 * bt143.1)⟩:S40)]) (wrap64 (x4 - 1)) x1000 bt151.2) else (none)) else (if (wrap64 (bt141.1 * bt143.1)) > 0 then (if x3.length < 2513169434916 then (spec_l71Groups.l0 k (x3++[(⟨y153,bt137.1,wrap64 (bt141.1 * bt143.1)⟩:S40)]) (wrap64 (x4 - 1)) x1000 bt151.2) else (none)) else (spec_l71Groups.l0 k x3 (wrap64 (x4 - 1)) x1000 bt151.2)))) else (none))) else (if (bt137.1.length:Int) > 0 then (if x3.length < 2513169434916 then (spec_l71Groups.l0 k (x3++[(⟨y134,bt137.1,wrap64 (bt141.1 * bt143.1)⟩:S40)]) (wrap64 (x4 - 1)) x1000 bt146.2) else (none)) else (if (wrap64 (bt141.1 * bt143.1)) > 0 then (if x3.length < 2513169434916 then (spec_l71Groups.l0 k (x3++[(⟨y134,bt137.1,wrap64 (bt141.1 * bt143.1)⟩:S40)]) (wrap64 (x4 - 1)) x1000 bt146.2) else (none)) else (spec_l71Groups.l0 k x3 (wrap64 (x4 - 1)) x1000 bt146.2)))))))))) else ((spec_l6Rd_pick.f k x1000 x1001 24).bind fun bt168=>(if bt168.1=0 then (if x3.length < 2513169434916 then (some ((x3++[(⟨(([(⟨#[120]⟩:ByteArray)]:List ByteArray)),([]:List (S51)),0⟩:S40)]),bt168.2)) else (none)) else (if bt168.1=1 then (if x3.length < 2513169434916 then (some ((x3++[(⟨([]:List ByteArray),([]:List (S51)),2⟩:S40)]),bt168.2)) else (none)) else (if bt168.1=2 then (if x3.length < 2513169434916 then (some ((x3++[(⟨(([(⟨#[88]⟩:ByteArray)]:List ByteArray)),([]:List (S51)),2⟩:S40)]),bt168.2)) else (none)) else (some (x3,bt168.2))))))
def spec_l71Groups.f (k:Nat) (s0_0:List Int) (s0_1:Int):Option ((List (S40))×Int):=(spec_l6Rd_pick.f k s0_0 s0_1 4).bind fun bt127=>(spec_l71Groups.l0 k (([]:List (S40))) bt127.1 s0_0 bt127.2)
def spec_l71Groups.T7:Bool×List (List Nat×List Nat):=(true,[([],[]),([0],[0]),([],[]),([],[]),([2,3],[2,3]),([4],[4]),([1,5,4],[1,5]),([0,1,2,3,4,5,6],[]),([7,6,6,0,1,2,3,4,5,6],[6,7])])
def spec_l71Groups.B7:List Nat:=[0,1,0,0,12,28,63,127,255]
theorem spec_l71Groups.tab7:rtab .any (opsOf Tryd.f11 7)=spec_l71Groups.T7:=by kernel_rfl
theorem spec_l71Groups.bits7:waitsOk spec_l71Groups.T7.2 spec_l71Groups.B7=true:=by kernel_rfl
theorem spec_l71Groups.calls (k:Nat) (g:Nat) (s0_0:List Int) (s0_1:Int) (r1:List (S40)) (r2:Int) (w0 w:World) (hI:IsS66 w0 w g s0_0 s0_1) (hB:Below w0.heap.size w0 w) (h:spec_l71Groups.f k s0_0 s0_1=some (r1,r2)) :
  Calls Tryd.prog 11 #[.pointer (some ⟨g,0,none⟩)] w fun e w'=>∃ v0_:Value,e=.returned (v0_)∧Kd.S k40 40 w' w.heap.size (fun _=>True) v0_ r1∧IsS66 w0 w' g s0_0 r2∧Below w0.heap.size w0 w'∧KeepBut w w' g none:=by
 have hu40:=Tryd.underlying40;have HI0:=A_ hI;have HK:=A_ (KeepBut.refl w g none);have HL:=A_ hB.size;clear hI;have HW0:=A_ hB.size;have HB:=A_ hB;clear hB;unfold spec_l71Groups.f at h
 have H:=h;clear h;obtain ⟨y124,Ny124⟩:=toY (([]:List (S40)));(first|with_reducible replace H:=bindZ Ny124 H|rw [← Ny124.out] at H|skip)
 replace H:=bindA H;obtain ⟨⟨t127,t128⟩,A2,H⟩:=H;try dsimp only at H
 have H':=A_ H;clear H;go_enter Tryd.func11,Tryd.ntmps11;go_wp2_with (first|((with_reducible refine gD (N:=6) rfl ?_);refine Kd.S_lit k40 _ 40 ?hg (N:=6) ?hd (xs:=([]:List (S40))) (inner:=[]) (ok:=fun _=>True) (okp:=fun _=>True) ?hr ?hp (fun _ hk=>hk) trivial (Below.refl _ _) (Nat.le_refl _) (by simp) ?_;(case hd=>rfl);(case hg=>rfl);(case hr=>exact zz13);(case hp=>exact (Reps.none _ _));intro v125 w3 ho4 hb hg_ hnew_;clear hg_ hnew_;(first|rw [← Ny124.out] at ho4|(simp only [Int.reduceToNat] at ho4;rw [← Ny124.out] at ho4));have HO126:=A_ (Kd.S_lower ho4 (keep_size (w:=w) (g:=g) (row:=none) (zz5 HK)));replace HK:=A_ (KeepBut.trans (zz5 HK) (KeepBut.of_below hb g none) (.inl rfl));replace HB:=A_ (bS (zz6 HB HI0) hb);replace HI0:=A_ (IsS66.below (zz4 HI0) hb);clear hb ho4)|(refine gR 25 (some 8) Tryd.func25 (spec_l6Rd_pick.calls k g s0_0 s0_1 4 t127 t128 w0 _ ?side1 ?side2 A2.out) ?_;(case side1=>exact (zz4 HI0));(case side2=>exact (zz6 HB HI0));rintro w5 ⟨hi,hb,hk⟩;replace HO126:=A_ (Kd.S_mono (Kd.S_keep (IsS66.apartS (show IsS66 w0 _ g s0_0 s0_1 from (zz4 HI0)) (zz57 HO126) (by decide)) hk (fun _ h=>h.2)) (fun _ h=>h.1));replace HK:=A_ (KeepBut.trans (zz5 HK) hk (.inl rfl));replace HB:=A_ (hb);replace HI0:=A_ (hi);(try clear hb hk hi)))
 go_loopg [3,4] k (fun kq v3 v4 w'=>∃ (x3_1:List (S40)) (x4_1:Int) (x1001_1:Int),v4=.int .i64 x4_1∧Aside0 (spec_l71Groups.l0 kq x3_1 x4_1 s0_0 x1001_1=some (r1,r2))∧Aside0 (kq≤k)∧Aside0 (Kd.S k40 40 w' w.heap.size (fun _=>True) v3 x3_1)∧Aside0 (IsS66 w0 w' g s0_0 x1001_1)∧Aside0 (KeepBut w w' g none)∧Aside0 (Below w0.heap.size w0 w'))
 case atStart=>exact ⟨(y124),(t127),(t128),zz2,H',⟨Nat.le_refl _⟩,⟨(zz57 HO126)⟩,⟨(zz4 HI0)⟩,⟨(zz5 HK)⟩,⟨(zz6 HB HI0)⟩⟩
 case round=>
  clear H';obtain ⟨x3_1,x4_1,x1001_1,rfl,HA,HK1,HO_3,HI0,HK,HB⟩:=hrel;cases gk with
  | zero=>exact absurd HA.out (by simp [spec_l71Groups.l0])
  | succ k1=>
   obtain ⟨H⟩:=HA;simp only [spec_l71Groups.l0] at H
   replace H:=iteEg H;rcases H with ⟨c6b0,H⟩|⟨c6b0,H⟩
   ·obtain ⟨y129,Ny129⟩:=toY (([(⟨#[42]⟩:ByteArray),(⟨#[114,111,118,101,114]⟩:ByteArray),(⟨#[115,99,111,117,116]⟩:ByteArray)]:List ByteArray))
    (first|with_reducible replace H:=bindZ Ny129 H|rw [← Ny129.out] at H|skip)
    replace H:=bindA H;obtain ⟨⟨t132,t133⟩,A7,H⟩:=H;try dsimp only at H
    obtain ⟨y134,Ny134,H⟩:=bindY H;replace H:=bindA H;obtain ⟨⟨t137,t140⟩,A8,H⟩:=H;try dsimp only at H
    replace H:=bindA H;obtain ⟨⟨t141,t142⟩,A9,H⟩:=H;try dsimp only at H
    replace H:=bindA H;obtain ⟨⟨t143,t144⟩,A10,H⟩:=H;try dsimp only at H
    replace H:=bindA H;obtain ⟨⟨t146,t147⟩,A11,H⟩:=H;try dsimp only at H
    have HF12:=A_ H;clear H;go_upto_if 27 with (first|((with_reducible refine gD (N:=14) rfl ?_);refine Kd.R_lit Kd.string _ 9 ?hg (N:=14) ?hd (xs:=([(⟨#[42]⟩:ByteArray),(⟨#[114,111,118,101,114]⟩:ByteArray),(⟨#[115,99,111,117,116]⟩:ByteArray)]:List ByteArray)) (inner:=[.string (⟨#[42]⟩:ByteArray),.string (⟨#[114,111,118,101,114]⟩:ByteArray),.string (⟨#[115,99,111,117,116]⟩:ByteArray)]) (ok:=fun _=>True) (okp:=fun _=>True) ?hr ?hp (fun _ hk=>hk) trivial (Below.refl _ _) (Nat.le_refl _) (by simp) ?_;(case hd=>rfl);(case hg=>rfl);(case hr=>exact zz13);(case hp=>exact (Reps.one (show Kd.M Kd.string _ _ _ (⟨#[42]⟩:ByteArray) [.string (⟨#[42]⟩:ByteArray)] from rfl) (Reps.one (show Kd.M Kd.string _ _ _ (⟨#[114,111,118,101,114]⟩:ByteArray) [.string (⟨#[114,111,118,101,114]⟩:ByteArray)] from rfl) (Reps.one (show Kd.M Kd.string _ _ _ (⟨#[115,99,111,117,116]⟩:ByteArray) [.string (⟨#[115,99,111,117,116]⟩:ByteArray)] from rfl) (Reps.none _ _)))));intro v130 w13 ho14 hb hg_ hnew_;clear hg_ hnew_;(first|rw [← Ny129.out] at ho14|(simp only [Int.reduceToNat] at ho14;rw [← Ny129.out] at ho14));replace HO_3:=A_ (Kd.S_elder' (zz57 HO_3) (Kd.R_base ho14) hb);have HO131:=A_ (Kd.R_lower ho14 (keep_size (w:=w) (g:=g) (row:=none) (zz5 HK)));replace HK:=A_ (KeepBut.trans (zz5 HK) (KeepBut.of_below hb g none) (.inl rfl));replace HB:=A_ (bS (zz6 HB HI0) hb);replace HI0:=A_ (IsS66.below (zz4 HI0) hb);clear hb ho14;obtain ⟨Ao15,co15,eo15⟩:=Kd.R_slice HO131.out;subst eo15)|(refine gR 26 (some 15) Tryd.func26 (spec_l6Rd_of.calls k1 g s0_0 x1001_1 _ _ y129 t132 t133 w0 _ ?side1 ?side2 ?side3 ?side4 ?side5 A7.out) ?_;(case side1=>exact (zz4 HI0));(case side2=>exact (zz6 HB HI0));(case side3=>exact (zz55 HO131));(case side4=>exact (Kd.R_reads' HO131.out).2.1);(case side5=>exact far_slice (IsS66.own_ne HI0.out HO131.out (by decide)));rintro w16 ⟨hi,hb,hk⟩;replace HO_3:=A_ (Kd.S_mono (Kd.S_keep (IsS66.apartS (show IsS66 w0 _ g s0_0 x1001_1 from (zz4 HI0)) (zz57 HO_3) (by decide)) hk (fun _ h=>h.2)) (fun _ h=>h.1));replace HO131:=A_ (Kd.R_mono (Kd.R_keep (IsS66.apart (show IsS66 w0 _ g s0_0 x1001_1 from (zz4 HI0)) (zz15 HO131) (by decide)) hk (fun _ h=>h.2)) (fun _ h=>h.1));replace HK:=A_ (KeepBut.trans (zz5 HK) hk (.inl rfl));replace HB:=A_ (hb);replace HI0:=A_ (hi);(try clear hb hk hi))|((with_reducible refine gD (N:=16) rfl ?_);refine Kd.R_lit Kd.string _ 9 ?hg (N:=16) ?hd (xs:=([t132]:List ByteArray)) (inner:=[.string t132]) (ok:=fun _=>True) (okp:=fun _=>True) ?hr ?hp (fun _ hk=>hk) trivial (Below.refl _ _) (Nat.le_refl _) (by simp) ?_;(case hd=>rfl);(case hg=>rfl);(case hr=>exact zz13);(case hp=>exact (Reps.one (show Kd.M Kd.string _ _ _ t132 [.string t132] from rfl) (Reps.none _ _)));intro v135 w17 ho18 hb hg_ hnew_;clear hg_ hnew_;(first|rw [← Ny134.out] at ho18|(simp only [Int.reduceToNat] at ho18;rw [← Ny134.out] at ho18));replace HO_3:=A_ (Kd.S_elder' (zz57 HO_3) (Kd.R_base ho18) hb);have HO136:=A_ (Kd.R_lower (Kd.R_new' ho18 (Kd.R_lt (zz15 HO131))) (keep_size (w:=w) (g:=g) (row:=none) (zz5 HK)));replace HO131:=A_ (Kd.R_elder' (zz15 HO131) (Kd.R_base ho18) hb);replace HK:=A_ (KeepBut.trans (zz5 HK) (KeepBut.of_below hb g none) (.inl rfl));replace HB:=A_ (bS (zz6 HB HI0) hb);replace HI0:=A_ (IsS66.below (zz4 HI0) hb);clear hb ho18)|(refine gV 27 (some 18) Tryd.func27 (spec_l71Rules.calls k1 g s0_0 t133 t137 t140 w0 _ ?side1 ?side2 A8.out) ?_;(case side1=>exact (zz4 HI0));(case side2=>exact (zz6 HB HI0));rintro v138 w19 ⟨ho0,hi,hb,hk⟩;replace HO_3:=A_ (Kd.S_mono (Kd.S_told (Kd.S_oldK (IsS66.apartS (show IsS66 w0 _ g s0_0 t133 from (zz4 HI0)) (zz57 HO_3) (by decide)) hk) (Kd.R_base ho0)) (fun _ h_=>h_.1));replace HO131:=A_ (Kd.R_mono (Kd.R_keep (IsS66.apart (show IsS66 w0 _ g s0_0 t133 from (zz4 HI0)) (zz15 HO131) (by decide)) hk (fun _ h=>h.2)) (fun _ h=>h.1));replace HO136:=A_ (Kd.R_mono (Kd.R_keep (IsS66.apart (show IsS66 w0 _ g s0_0 t133 from (zz4 HI0)) (zz15 HO136) (by decide)) hk (fun _ h=>h.2)) (fun _ h=>h.1));have HO139:=A_ (Kd.R_lower ho0 (keep_size (w:=w) (g:=g) (row:=none) (zz5 HK)));replace HK:=A_ (KeepBut.trans (zz5 HK) hk (.inl rfl));replace HB:=A_ (hb);replace HI0:=A_ (hi);(try clear hb hk hi ho0))|(refine gR 25 (some 20) Tryd.func25 (spec_l6Rd_pick.calls k1 g s0_0 t140 4 t141 t142 w0 _ ?side1 ?side2 A9.out) ?_;(case side1=>exact (zz4 HI0));(case side2=>exact (zz6 HB HI0));rintro w20 ⟨hi,hb,hk⟩;replace HO_3:=A_ (Kd.S_mono (Kd.S_keep (IsS66.apartS (show IsS66 w0 _ g s0_0 t140 from (zz4 HI0)) (zz57 HO_3) (by decide)) hk (fun _ h=>h.2)) (fun _ h=>h.1));replace HO131:=A_ (Kd.R_mono (Kd.R_keep (IsS66.apart (show IsS66 w0 _ g s0_0 t140 from (zz4 HI0)) (zz15 HO131) (by decide)) hk (fun _ h=>h.2)) (fun _ h=>h.1));replace HO136:=A_ (Kd.R_mono (Kd.R_keep (IsS66.apart (show IsS66 w0 _ g s0_0 t140 from (zz4 HI0)) (zz15 HO136) (by decide)) hk (fun _ h=>h.2)) (fun _ h=>h.1));replace HO139:=A_ (Kd.R_mono (Kd.R_keep (IsS66.apart (show IsS66 w0 _ g s0_0 t140 from (zz4 HI0)) (zz15 HO139) (by decide)) hk (fun _ h=>h.2)) (fun _ h=>h.1));replace HK:=A_ (KeepBut.trans (zz5 HK) hk (.inl rfl));replace HB:=A_ (hb);replace HI0:=A_ (hi);(try clear hb hk hi))|(refine gR 25 (some 22) Tryd.func25 (spec_l6Rd_pick.calls k1 g s0_0 t142 3 t143 t144 w0 _ ?side1 ?side2 A10.out) ?_;(case side1=>exact (zz4 HI0));(case side2=>exact (zz6 HB HI0));rintro w21 ⟨hi,hb,hk⟩;replace HO_3:=A_ (Kd.S_mono (Kd.S_keep (IsS66.apartS (show IsS66 w0 _ g s0_0 t142 from (zz4 HI0)) (zz57 HO_3) (by decide)) hk (fun _ h=>h.2)) (fun _ h=>h.1));replace HO131:=A_ (Kd.R_mono (Kd.R_keep (IsS66.apart (show IsS66 w0 _ g s0_0 t142 from (zz4 HI0)) (zz15 HO131) (by decide)) hk (fun _ h=>h.2)) (fun _ h=>h.1));replace HO136:=A_ (Kd.R_mono (Kd.R_keep (IsS66.apart (show IsS66 w0 _ g s0_0 t142 from (zz4 HI0)) (zz15 HO136) (by decide)) hk (fun _ h=>h.2)) (fun _ h=>h.1));replace HO139:=A_ (Kd.R_mono (Kd.R_keep (IsS66.apart (show IsS66 w0 _ g s0_0 t142 from (zz4 HI0)) (zz15 HO139) (by decide)) hk (fun _ h=>h.2)) (fun _ h=>h.1));replace HK:=A_ (KeepBut.trans (zz5 HK) hk (.inl rfl));replace HB:=A_ (hb);replace HI0:=A_ (hi);(try clear hb hk hi);obtain ⟨Ao22,co22,eo22⟩:=Kd.R_slice HO139.out;subst eo22;obtain ⟨Ao23,co23,eo23⟩:=Kd.R_slice HO136.out;subst eo23)|(refine boxF 5 #[.slice none 0 0,.slice none 0 0,.int .i64 0] 40 ?_;intro gb145 hg w24 BK145 hb;replace HO_3:=A_ (Kd.S_below (Kd.S_elderB (zz57 HO_3) gb145 (Nat.le_of_eq hg.symm)) hb);replace HO131:=A_ (rB (zz15 HO131) hb);replace HO136:=A_ (rB (zz15 HO136) hb);replace HO139:=A_ (rB (zz15 HO139) hb);replace HB:=A_ (bS (zz6 HB HI0) hb);have GW145:=A_ ((by rw [hg];exact (keep_size (w:=w) (g:=g) (row:=none) (zz5 HK)):w.heap.size≤gb145));have GE145:=A_ ((Nat.le_trans HW0.out (by rw [hg];exact (keep_size (w:=w) (g:=g) (row:=none) (zz5 HK)):w.heap.size≤gb145):w0.heap.size≤gb145));replace HK:=A_ (KeepBut.trans (zz5 HK) (KeepBut.of_below hb g none) (.inl rfl));have NB0_145:=A_ ((by rw [hg];exact Nat.ne_of_lt (IsS66.lt (show IsS66 w0 _ g s0_0 t144 from (zz4 HI0))):g≠gb145));have NB145_0:=A_ ((by rw [hg];exact Nat.ne_of_gt (IsS66.lt (show IsS66 w0 _ g s0_0 t144 from (zz4 HI0))):gb145≠g));replace HI0:=A_ (IsS66.below (zz4 HI0) hb);clear hb hg;have hnb25:=NB145_0.out;have hnc25:=NB0_145.out;obtain ⟨_,_,_,_,_,_⟩:=cf3 BK145)|(refine gR 25 (some 26) Tryd.func25 (spec_l6Rd_pick.calls k1 g s0_0 t144 4 t146 t147 w0 _ ?side1 ?side2 A11.out) ?_;(case side1=>exact (zz59 HI0 NB0_145));(case side2=>exact (zz60 HB HI0 GE145));rintro w27 ⟨hi,hb,hk⟩;replace HO_3:=A_ (Kd.S_mono (Kd.S_keep (IsS66.apartS (show IsS66 w0 _ g s0_0 t144 from (zz59 HI0 NB0_145)) (by (with_reducible repeat (first|apply Kd.S_alloc|apply Kd.S_drewN|apply Kd.S_drew));exact (Kd.S_mono (Kd.S_far (p:=⟨gb145,2,none⟩) (Kd.S_far (p:=⟨gb145,1,none⟩) (Kd.S_far (p:=⟨gb145,0,none⟩) (Kd.S_mono HO_3.out (fun k_ hk=>(⟨hk,hk.2⟩:_∧k_≠gb145))) (fun _ hk=>hk.2) (.slice Ao23 y134.length co23)) (fun _ hk=>hk.2) (.slice Ao22 t137.length co22)) (fun _ hk=>hk.2) (.int .i64 (wrap64 (t141 * t143)))) (fun _ h_=>h_.1))) (by decide)) hk (fun _ h=>h.2)) (fun _ h=>h.1));replace HO131:=A_ (Kd.R_mono (Kd.R_keep (IsS66.apart (show IsS66 w0 _ g s0_0 t144 from (zz59 HI0 NB0_145)) (zz62 HO131 BK145) (by decide)) hk (fun _ h=>h.2)) (fun _ h=>h.1));replace HO136:=A_ (Kd.R_mono (Kd.R_keep (IsS66.apart (show IsS66 w0 _ g s0_0 t144 from (zz59 HI0 NB0_145)) (zz62 HO136 BK145) (by decide)) hk (fun _ h=>h.2)) (fun _ h=>h.1));replace HO139:=A_ (Kd.R_mono (Kd.R_keep (IsS66.apart (show IsS66 w0 _ g s0_0 t144 from (zz59 HI0 NB0_145)) (zz62 HO139 BK145) (by decide)) hk (fun _ h=>h.2)) (fun _ h=>h.1));replace BK145:=A_ (KeepBut.blk hk (g':=gb145) (o:=.cells #[.slice Ao23 y134.length co23,.slice Ao22 t137.length co22,.int .i64 (wrap64 (t141 * t143))] 40 (0,0)) (zz39 BK145) NB145_0.out (by simp));replace HK:=A_ (KeepBut.trans (zz63 HK GW145) hk (.inl rfl));replace HB:=A_ (hb);replace HI0:=A_ (hi);(try clear hb hk hi)))
    obtain ⟨H⟩:=HF12;replace H:=iteEq H;rcases H with ⟨c28b0,c28b1,H⟩|⟨c28b0,c28b1,c28,H⟩
    ·(first|rw [c28b0]|(simp only [i64_w,i32_w];rw [c28b0])|skip)
     obtain ⟨y148,Ny148⟩:=toY (([(⟨#[42]⟩:ByteArray),(⟨#[114,111,118,101,114]⟩:ByteArray),(⟨#[120]⟩:ByteArray)]:List ByteArray));(first|with_reducible replace H:=bindZ Ny148 H|rw [← Ny148.out] at H|skip)
     replace H:=bindA H;obtain ⟨⟨t151,t152⟩,A29,H⟩:=H;try dsimp only at H
     replace H:=iteN H;obtain ⟨c30,H⟩:=H;have LMc30:=A_ c30;clear c30;obtain ⟨y153,Ny153⟩:=toY (y134++[t151]);(first|with_reducible replace H:=bindZ Ny153 H|rw [← Ny153.out] at H|skip)
     have HF31:=A_ H;clear H;try go_wp2
     replace HO_3:=A_ (Kd.S_drew HO_3.out);replace HO131:=A_ (Kd.R_drew HO131.out);replace HO136:=A_ (Kd.R_drew HO136.out);replace HO139:=A_ (Kd.R_drew HO139.out);replace BK145:=A_ (blk_drew BK145.out);replace HI0:=A_ (IsS66.drew HI0.out);replace HK:=A_ (keep_drew HK.out);replace HB:=A_ (below_drew1 HB.out);refine start_ (n:=9) (S:=fun w'=>w'.cell? ⟨gb145,0,none⟩=some (.slice Ao23 y134.length co23)∧w'.cell? ⟨gb145,1,none⟩=some (.slice Ao22 t137.length co22)∧w'.cell? ⟨gb145,2,none⟩=some (.int .i64 (wrap64 (t141 * t143)))) (ds:=[8]) #[yF,yF,yF,yF,yF,yF,yF,yF,yF] (by kernel_rfl) rfl rfl ⟨(blk_cell BK145.out 0).trans rfl,(blk_cell BK145.out 1).trans rfl,(blk_cell BK145.out 2).trans rfl⟩ (fun hHeld=>?_);refine with_tabW spec_l71Groups.tab7 spec_l71Groups.bits7 (fun HT_ HW_=>?_);generalize w27.drew=w32 at HO_3 HO131 HO136 HO139 BK145 HI0 HK HB hHeld ⊢;refine pureZ 0 (some 28) #[yT,yF,yF,yF,yF,yF,yF,yF,yF] ?_;refine pureZ 2 (some 30) #[yT,yF,yT,yF,yF,yF,yF,yF,yF] ?_;refine takeZ3 1 (some 29) #[yT,yT,yT,yF,yF,yF,yF,yF,yF] hHeld ?_;refine oneZ 3 (some 31) #[yT,yT,yT,yT,yF,yF,yF,yF,yF] (fun K hK=>?_);refine Kd.R_lit_step Kd.string _ 9 ?hg (N:=31) ?hd (xs:=([(⟨#[42]⟩:ByteArray),(⟨#[114,111,118,101,114]⟩:ByteArray),(⟨#[120]⟩:ByteArray)]:List ByteArray)) (inner:=[.string (⟨#[42]⟩:ByteArray),.string (⟨#[114,111,118,101,114]⟩:ByteArray),.string (⟨#[120]⟩:ByteArray)]) (ok:=fun _=>True) (okp:=fun _=>True) ?hr ?hp (fun _ hk=>hk) trivial (Below.refl _ _) (Nat.le_refl _) (by simp) ?_;(case hd=>rfl);(case hg=>rfl);(case hr=>exact zz13);(case hp=>exact (Reps.one (show Kd.M Kd.string _ _ _ (⟨#[42]⟩:ByteArray) [.string (⟨#[42]⟩:ByteArray)] from rfl) (Reps.one (show Kd.M Kd.string _ _ _ (⟨#[114,111,118,101,114]⟩:ByteArray) [.string (⟨#[114,111,118,101,114]⟩:ByteArray)] from rfl) (Reps.one (show Kd.M Kd.string _ _ _ (⟨#[120]⟩:ByteArray) [.string (⟨#[120]⟩:ByteArray)] from rfl) (Reps.none _ _)))));intro v149 w33 ho34 hb hg_ hnew_;clear hg_ hnew_;(first|rw [← Ny148.out] at ho34|(simp only [Int.reduceToNat] at ho34;rw [← Ny148.out] at ho34))
     replace HO_3:=A_ (Kd.S_elder' (zz57 HO_3) (Kd.R_base ho34) hb);replace HO139:=A_ (rB (zz15 HO139) hb);have HO150:=A_ (Kd.R_lower (Kd.R_new' (Kd.R_new' ho34 (Kd.R_lt (zz15 HO131))) (Kd.R_lt (zz15 HO136))) (keep_size (w:=w) (g:=g) (row:=none) (zz63 HK GW145)));replace HO131:=A_ (Kd.R_elder' (zz15 HO131) (Kd.R_base ho34) hb);replace HO136:=A_ (Kd.R_elder' (zz15 HO136) (Kd.R_base ho34) hb);replace BK145:=A_ (bB (zz23 BK145) hb);replace HK:=A_ (KeepBut.trans (zz63 HK GW145) (KeepBut.of_below hb g none) (.inl rfl));replace HB:=A_ (bS (zz60 HB HI0 GE145) hb);replace HI0:=A_ (IsS66.below (zz59 HI0 NB0_145) hb);clear hb ho34;obtain ⟨Ao35,co35,eo35⟩:=Kd.R_slice HO150.out;(first|subst eo35|(injection eo35 with f1_ f2_ f3_;have f4_:=f1_.symm;have f5_:=f3_.symm;clear f1_ f2_ f3_;subst f4_;subst f5_))
     refine hK.out _ _ ⟨(blk_cell BK145.out 0).trans rfl,(blk_cell BK145.out 1).trans rfl,(blk_cell BK145.out 2).trans rfl⟩ (fun hHeld=>?_);clear hK K;refine nZ 31 ?_;refine oneZ 4 (some 32) #[yT,yT,yT,yT,yT,yF,yF,yF,yF] (fun K hK=>?_);refine goes_ Tryd.func26 (by kernel_rfl) rfl #[.pointer (some ⟨g,0,none⟩),.slice Ao35 y148.length co35] (by rfl) rfl rfl zz14 ?_;with_reducible refine (spec_l6Rd_of.calls k1 g s0_0 t147 _ _ y148 t151 t152 w0 _ ?side1 ?side2 ?side3 ?side4 ?side5 A29.out).mono ?_
     (case side1=>exact (zz59 HI0 NB0_145))
     (case side2=>exact (zz60 HB HI0 GE145))
     (case side3=>exact (zz55 HO150))
     (case side4=>exact (Kd.R_reads' HO150.out).2.1)
     (case side5=>exact far_slice (IsS66.own_ne HI0.out HO150.out (by decide)))
     rintro e w36 ⟨rfl,hi,hb,hk⟩;refine ⟨_,rfl,?_⟩;replace HO_3:=A_ (Kd.S_mono (Kd.S_keep (IsS66.apartS (show IsS66 w0 _ g s0_0 t147 from (zz59 HI0 NB0_145)) (zz57 HO_3) (by decide)) hk (fun _ h=>h.2)) (fun _ h=>h.1));replace HO131:=A_ (Kd.R_mono (Kd.R_keep (IsS66.apart (show IsS66 w0 _ g s0_0 t147 from (zz59 HI0 NB0_145)) (zz15 HO131) (by decide)) hk (fun _ h=>h.2)) (fun _ h=>h.1));replace HO136:=A_ (Kd.R_mono (Kd.R_keep (IsS66.apart (show IsS66 w0 _ g s0_0 t147 from (zz59 HI0 NB0_145)) (zz15 HO136) (by decide)) hk (fun _ h=>h.2)) (fun _ h=>h.1));replace HO139:=A_ (Kd.R_mono (Kd.R_keep (IsS66.apart (show IsS66 w0 _ g s0_0 t147 from (zz59 HI0 NB0_145)) (zz15 HO139) (by decide)) hk (fun _ h=>h.2)) (fun _ h=>h.1));replace BK145:=A_ (KeepBut.blk hk (g':=gb145) (o:=.cells #[.slice Ao23 y134.length co23,.slice Ao22 t137.length co22,.int .i64 (wrap64 (t141 * t143))] 40 (0,0)) (zz23 BK145) NB145_0.out (by simp));replace HO150:=A_ (Kd.R_mono (Kd.R_keep (IsS66.apart (show IsS66 w0 _ g s0_0 t147 from (zz59 HI0 NB0_145)) (zz15 HO150) (by decide)) hk (fun _ h=>h.2)) (fun _ h=>h.1));replace HK:=A_ (KeepBut.trans (zz63 HK GW145) hk (.inl rfl));replace HB:=A_ (hb);replace HI0:=A_ (hi);(try clear hb)
     (try clear hb2)
     (try clear hk)
     (try clear hi)
     refine hK.out _ _ ⟨(blk_cell BK145.out 0).trans rfl,(blk_cell BK145.out 1).trans rfl,(blk_cell BK145.out 2).trans rfl⟩ (fun hHeld=>?_);clear hK K;refine nZ 32 ?_;refine oneZ 5 (some 33) #[yT,yT,yT,yT,yT,yT,yF,yF,yF] (fun K hK=>?_);refine value_ (w1:=?_) (v:=?_) (by rfl) rfl ?_ ?_;rotate_left 2
     ·go_simp
      constructor
      ·rfl
      ·rfl
     refine hK.out _ _ ⟨(blk_cell (blk_alloc BK145.out _) 0).trans rfl,(blk_cell (blk_alloc BK145.out _) 1).trans rfl,(blk_cell (blk_alloc BK145.out _) 2).trans rfl⟩ (fun hHeld=>?_);clear hK K;refine nZ 33 ?_;refine oneZ 6 (some 34) #[yT,yT,yT,yT,yT,yT,yT,yF,yF] (fun K hK=>?_);refine Kd.R_append_step Kd.string w.heap.size (by rfl) (.tmp 29) (.tmp 33) 37 9 (.string ⟨#[]⟩) 16 rfl Tryd.underlying37 info9 rfl (by decide) (by omega) (.slice Ao23 y134.length co23) y134 t151 [.string t151] (fun k_=>some k_≠(.slice Ao15 y129.length co15:Value).ownBlock∧some k_≠(.slice Ao35 y148.length co35:Value).ownBlock) (fun _=>False) rfl rfl ?aP (fun _ hk=>hk.elim) ?aF ?aO (Below.refl _ _) ?aS ?aL ?_;(case aP=>exact rfl)
     (case aF=>exact (fun k_ hk=>⟨Kd.fresh' (Kd.R_lt (zz15 HO131)) k_ hk,Kd.fresh' (Kd.R_lt (zz15 HO150)) k_ hk⟩))
     (case aO=>exact (zz64 HO136))
     (case aS=>exact (keep_size (w:=w) (g:=g) (row:=none) (zz63 HK GW145)))
     (case aL=>exact (zz18 LMc30))
     intro v154 w37 ho hb hg hat;rw [← Ny153.out] at ho;replace HO_3:=A_ (Kd.S_after (ok:=(fun k_=>some k_≠(.slice Ao15 y129.length co15:Value).ownBlock∧some k_≠(.slice Ao22 t137.length co22:Value).ownBlock∧some k_≠(.slice Ao35 y148.length co35:Value).ownBlock∧k_≠gb145)) (by (with_reducible repeat (first|apply Kd.S_alloc|apply Kd.S_drewN|apply Kd.S_drew));exact Kd.S_mono HO_3.out (fun _ hk=>⟨⟨hk.1.1.1.1.2,⟨hk.1.1.2,⟨hk.2,hk.1.2⟩⟩⟩,hk.1.1.1.2⟩)) hg hat);replace HO131:=A_ (Kd.R_after (ok:=(fun k_=>some k_≠(.slice Ao35 y148.length co35:Value).ownBlock)) (by (with_reducible repeat (first|apply Kd.R_alloc|apply Kd.R_drewN|apply Kd.R_drew));exact Kd.R_mono HO131.out (fun _ hk=>⟨hk.2,hk.1.2⟩)) hg hat);replace HO139:=A_ (Kd.R_over' (zz15 HO139) (Kd.R_typed (zz15 HO136)) (by decide) hg);replace BK145:=A_ (blk_grown (zz23 BK145) hg (Kd.R_ne HO136.out BK145.out (by decide)));replace HO150:=A_ (Kd.R_after (ok:=(fun k_=>some k_≠(.slice Ao15 y129.length co15:Value).ownBlock)) (zz64 HO150) hg hat);replace HB:=A_ (below_weaken (zz60 HB HI0 GE145) HL.out hb);replace HI0:=A_ (IsS66.grown (zz59 HI0 NB0_145) hg (IsS66.own_ne HI0.out HO136.out (by decide)));replace HK:=A_ (KeepBut.trans (zz63 HK GW145) (KeepBut.of_grown hg g) (Kd.R_base2 HO136.out));have HO155:=A_ (ho);clear HO136;clear ho hb hg hat;obtain ⟨Ao38,co38,eo38⟩:=Kd.R_slice HO155.out;(first|subst eo38|(injection eo38 with f1_ f2_ f3_;have f4_:=f1_.symm;have f5_:=f3_.symm;clear f1_ f2_ f3_;subst f4_;subst f5_))
     refine hK.out _ _ ⟨(blk_cell BK145.out 0).trans rfl,(blk_cell BK145.out 1).trans rfl,(blk_cell BK145.out 2).trans rfl⟩ (fun hHeld=>?_);clear hK K;refine nZ 34 ?_;refine pureZ 7 (some 35) #[yT,yT,yT,yT,yT,yT,yT,yT,yF] ?_;refine last_ (i:=8) (N:=none) #[yT,yT,yT,yT,yT,yT,yT,yT,yT] rfl rfl (one_of HT_.out (by kernel_rfl)) (by decide) (fun K hK=>?_);have hs39:w37.cell? ⟨gb145,0,none⟩=some (.slice Ao23 y134.length co23):=(blk_cell BK145.out 0).trans rfl;have hfs39:=blk_frozen BK145.out 0;refine skip_ (w1:=?_) (by rfl) rfl ?_ ?_;rotate_left
     ·go_simp
      rfl
     refine hK.out _ _ ?_;clear hK K;refine done_ (done_of HT_.out (by kernel_rfl)) ?_;have n0_:Aside0 (Kd.S k40 40 (w37.setCell ⟨gb145,0,none⟩ (.slice Ao38 y153.length co38)) w.heap.size (fun k_=>some k_≠(.slice Ao15 y129.length co15:Value).ownBlock∧some k_≠(.slice Ao22 t137.length co22:Value).ownBlock∧some k_≠(.slice Ao35 y148.length co35:Value).ownBlock∧some k_≠(.slice Ao38 y153.length co38:Value).ownBlock∧k_≠gb145) u3 x3_1):=⟨(by (with_reducible repeat (first|apply Kd.S_alloc|apply Kd.S_drewN|apply Kd.S_drew));exact Kd.S_mono (Kd.S_far (p:=⟨gb145,0,none⟩) (Kd.S_mono HO_3.out (fun k_ hk=>(⟨hk,hk.1.2.2.2⟩:_∧k_≠gb145))) (fun _ hk=>hk.2) (.slice Ao38 y153.length co38)) (fun _ hk=>⟨hk.1.1.1,⟨hk.1.1.2.1,⟨hk.1.1.2.2.1,⟨hk.1.2,hk.1.1.2.2.2⟩⟩⟩⟩))⟩;have n1_:Aside0 (Kd.R Kd.string 9 (w37.setCell ⟨gb145,0,none⟩ (.slice Ao38 y153.length co38)) w.heap.size (fun k_=>some k_≠(.slice Ao35 y148.length co35:Value).ownBlock∧some k_≠(.slice Ao38 y153.length co38:Value).ownBlock) (.slice Ao15 y129.length co15) y129):=⟨(zz28 (rt HO131 BK145))⟩;have n2_:Aside0 (Kd.R k51 51 (w37.setCell ⟨gb145,0,none⟩ (.slice Ao38 y153.length co38)) w.heap.size (fun _=>True) (.slice Ao22 t137.length co22) t137):=⟨(zz28 (rt HO139 BK145))⟩;have n3_:Aside0 (Kd.R Kd.string 9 (w37.setCell ⟨gb145,0,none⟩ (.slice Ao38 y153.length co38)) w.heap.size (fun k_=>some k_≠(.slice Ao15 y129.length co15:Value).ownBlock∧some k_≠(.slice Ao38 y153.length co38:Value).ownBlock) (.slice Ao35 y148.length co35) y148):=⟨(zz28 (rt HO150 BK145))⟩;have n4_:Aside0 (Kd.R Kd.string 9 (w37.setCell ⟨gb145,0,none⟩ (.slice Ao38 y153.length co38)) w.heap.size (fun k_=>some k_≠(.slice Ao15 y129.length co15:Value).ownBlock∧some k_≠(.slice Ao35 y148.length co35:Value).ownBlock) (.slice Ao38 y153.length co38) y153):=⟨(zz28 (rt HO155 BK145))⟩;have n5_:Aside0 ((w37.setCell ⟨gb145,0,none⟩ (.slice Ao38 y153.length co38)).heap[gb145]?=some (.cells #[.slice Ao38 y153.length co38,.slice Ao22 t137.length co22,.int .i64 (wrap64 (t141 * t143))] 40 (0,0))):=⟨(by first|((repeat (first|(with_reducible first|exact BK145.out|refine blk_drewN ?_ _|refine blk_drew ?_|refine blk_alloc ?_ _|apply blk_put)|exact BK145.out));all_goals rfl;done)|(apply blk_put (i:=0);exact BK145.out;all_goals rfl))⟩;have n6_:Aside0 (IsS66 w0 (w37.setCell ⟨gb145,0,none⟩ (.slice Ao38 y153.length co38)) g s0_0 t152):=⟨(zz59 HI0 NB0_145)⟩;have n7_:Aside0 (KeepBut w (w37.setCell ⟨gb145,0,none⟩ (.slice Ao38 y153.length co38)) g none):=⟨(zz63 HK GW145)⟩;have n8_:Aside0 (Below w0.heap.size w0 (w37.setCell ⟨gb145,0,none⟩ (.slice Ao38 y153.length co38))):=⟨(zz60 HB HI0 GE145)⟩;(try clear HO_3)
     (try clear HO131)
     (try clear HO139)
     (try clear HO150)
     (try clear HO155)
     (try clear BK145)
     (try clear HI0)
     (try clear HK)
     (try clear HB)
     generalize (w37.setCell ⟨gb145,0,none⟩ (.slice Ao38 y153.length co38))=w40 at n0_ n1_ n2_ n3_ n4_ n5_ n6_ n7_ n8_ ⊢;have HO_3:=n0_;have HO131:=n1_;have HO139:=n2_;have HO150:=n3_;have HO155:=n4_;have BK145:=n5_;have HI0:=n6_;have HK:=n7_;have HB:=n8_;clear n0_ n1_ n2_ n3_ n4_ n5_ n6_ n7_ n8_;have hnb41:=NB145_0.out;have hnc41:=NB0_145.out;obtain ⟨_,_,_,_,_,_⟩:=cf3 BK145;go_wp2_with (first|((with_reducible refine atG ?_ ?_ fun K_ hK_=>?_);rfl;exact undecG)|((with_reducible refine atI ?_ fun K_ hK_=>?_);exact undecI))
     refine unG hK_ ?_;clear hK_ K_;obtain ⟨H⟩:=HF31;replace H:=iteE H;rcases H with ⟨c43,H⟩|⟨c43,H⟩
     ·have c43b0:=gtT c43
      have c43b1:decide (0 < t137.length)=true:=dT (by omega);(first|refine iteT ?_|refine iteF ?_|skip)
      clear c43;(first|rw [c43b0]|(simp only [i64_w,i32_w];rw [c43b0])|skip)
      replace H:=iteN H;obtain ⟨c44,H⟩:=H;have LMc44:=A_ c44;clear c44;obtain ⟨y156,Ny156⟩:=toY (x3_1++[(⟨y153,t137,wrap64 (t141 * t143)⟩:S40)]);(first|with_reducible replace H:=bindZ Ny156 H|rw [← Ny156.out] at H|skip)
      have H':=A_ H;clear H;have hnb45:=NB145_0.out;have hnc45:=NB0_145.out;obtain ⟨_,_,_,_,_,_⟩:=cf3 BK145;go_wp2_with (first|((with_reducible refine gate_builtin (b:=.append) (xs:=#[.tmp 45,.tmp 47]) rfl ?_);at_builtin;refine Kd.S_append k40 w.heap.size rfl (.tmp 45) (.tmp 47) 23 40 (.agg #[(.slice none 0 0),(.slice none 0 0),(.int .i64 0)]) 56 rfl Tryd.underlying23 info40 rfl (by decide) (by omega) u3 x3_1 (⟨y153,t137,wrap64 (t141 * t143)⟩:S40) [.slice Ao38 y153.length co38,.slice Ao22 t137.length co22,.int .i64 (wrap64 (t141 * t143))] (fun k_=>some k_≠(.slice Ao15 y129.length co15:Value).ownBlock∧some k_≠(.slice Ao35 y148.length co35:Value).ownBlock∧k_≠gb145) (fun k_=>some k_=(.slice Ao38 y153.length co38:Value).ownBlock∨some k_=(.slice Ao22 t137.length co22:Value).ownBlock) rfl rfl ?aP (fun k_ hk_=>hk_.elim (fun h_=>((Kd.R_mono (ok':=fun k_=>((fun k_=>some k_≠(.slice Ao15 y129.length co15:Value).ownBlock∧some k_≠(.slice Ao35 y148.length co35:Value).ownBlock∧k_≠gb145)) k_∧some k_≠(u3:Value).ownBlock) (Kd.R_types (Kd.R_apart' (HO155.out) (Kd.S_typed HO_3.out) (by decide)) BK145.out (by decide)) (fun k_ hk=>⟨⟨hk.1.1.1,⟨hk.1.1.2,hk.2⟩⟩,hk.1.2⟩))).1 k_ h_.symm) (fun h_=>((Kd.R_mono (ok':=fun k_=>((fun k_=>some k_≠(.slice Ao15 y129.length co15:Value).ownBlock∧some k_≠(.slice Ao35 y148.length co35:Value).ownBlock∧k_≠gb145)) k_∧some k_≠(u3:Value).ownBlock) (Kd.R_types (Kd.R_apart' (Kd.R_apart' (Kd.R_apart' (HO139.out) (Kd.R_typed HO131.out) (by decide)) (Kd.R_typed HO150.out) (by decide)) (Kd.S_typed HO_3.out) (by decide)) BK145.out (by decide)) (fun k_ hk=>⟨⟨hk.1.1.1.2,⟨hk.1.1.2,hk.2⟩⟩,hk.1.2⟩))).1 k_ h_.symm)) ?aF ?aO (Below.refl _ _) ?aS ?aL ?_;(case aP=>exact k40_mkM _ _ _ (⟨y153,t137,wrap64 (t141 * t143)⟩:S40) (Kd.R_mono (Kd.R_tight rfl (Kd.R_mono (ok':=fun k_=>((fun k_=>some k_≠(.slice Ao15 y129.length co15:Value).ownBlock∧some k_≠(.slice Ao35 y148.length co35:Value).ownBlock∧k_≠gb145)) k_∧some k_≠(u3:Value).ownBlock) (Kd.R_types (Kd.R_apart' (HO155.out) (Kd.S_typed HO_3.out) (by decide)) BK145.out (by decide)) (fun k_ hk=>⟨⟨hk.1.1.1,⟨hk.1.1.2,hk.2⟩⟩,hk.1.2⟩))) (fun _ h_=>Or.inl h_)) (Kd.R_mono (Kd.R_tight rfl (Kd.R_mono (ok':=fun k_=>((fun k_=>some k_≠(.slice Ao15 y129.length co15:Value).ownBlock∧some k_≠(.slice Ao35 y148.length co35:Value).ownBlock∧k_≠gb145)) k_∧some k_≠(u3:Value).ownBlock) (Kd.R_types (Kd.R_apart' (Kd.R_apart' (Kd.R_apart' (HO139.out) (Kd.R_typed HO131.out) (by decide)) (Kd.R_typed HO150.out) (by decide)) (Kd.S_typed HO_3.out) (by decide)) BK145.out (by decide)) (fun k_ hk=>⟨⟨hk.1.1.1.2,⟨hk.1.1.2,hk.2⟩⟩,hk.1.2⟩))) (fun _ h_=>Or.inr (h_))));(case aF=>exact (fun k_ hk=>⟨Kd.fresh' (Kd.R_lt (zz15 HO131)) k_ hk,Kd.fresh' (Kd.R_lt (zz15 HO150)) k_ hk,Kd.freshB (zz23 BK145) k_ hk⟩));(case aO=>exact (zz69 HO_3));(case aS=>exact (keep_size (w:=w) (g:=g) (row:=none) (zz63 HK GW145)));(case aL=>exact (zz18 LMc44));intro v157 w47 ho hb hg hat;rw [← Ny156.out] at ho;replace HO131:=A_ (Kd.R_over' (zz15 HO131) (Kd.S_typed (zz57 HO_3)) (by decide) hg);replace BK145:=A_ (blk_grown (zz23 BK145) hg (Kd.S_away HO_3.out (fun _ hk=>hk.2.2.2.2)));replace HO150:=A_ (Kd.R_over' (zz15 HO150) (Kd.S_typed (zz57 HO_3)) (by decide) hg);replace HB:=A_ (below_weaken (zz60 HB HI0 GE145) HL.out hb);replace HI0:=A_ (IsS66.grown (zz59 HI0 NB0_145) hg (IsS66.own_neS HI0.out HO_3.out (by decide)));replace HK:=A_ (KeepBut.trans (zz63 HK GW145) (KeepBut.of_grown hg g) (Kd.S_base2 HO_3.out));have HO158:=A_ (ho);clear HO_3;clear HO139;clear HO155;clear ho hb hg hat))
      go_roundg k1
      case measure=>have:=HK1.out;omega
      case rel=>exact ⟨(y156),(wrap64 (x4_1 - 1)),(t152),zz2,H',⟨(zz18 HK1)⟩,⟨(zz70 HO158)⟩,⟨(zz59 HI0 NB0_145)⟩,⟨(zz63 HK GW145)⟩,⟨(zz60 HB HI0 GE145)⟩⟩
     ·have c43b0:=gtF c43
      have c43b1:decide (0 < t137.length)=false:=dF (by omega);(first|refine iteT ?_|refine iteF ?_|skip)
      clear c43;(first|rw [c43b0]|(simp only [i64_w,i32_w];rw [c43b0])|skip)
      replace H:=iteEg H;rcases H with ⟨c48b0,H⟩|⟨c48b0,H⟩
      ·replace H:=iteN H
       obtain ⟨c49,H⟩:=H;have LMc49:=A_ c49;clear c49;obtain ⟨y159,Ny159⟩:=toY (x3_1++[(⟨y153,t137,wrap64 (t141 * t143)⟩:S40)]);(first|with_reducible replace H:=bindZ Ny159 H|rw [← Ny159.out] at H|skip)
       have H':=A_ H;clear H;have hnb50:=NB145_0.out;have hnc50:=NB0_145.out;obtain ⟨_,_,_,_,_,_⟩:=cf3 BK145;go_wp2_with (first|((with_reducible refine gate_builtin (b:=.append) (xs:=#[.tmp 45,.tmp 47]) rfl ?_);at_builtin;refine Kd.S_append k40 w.heap.size rfl (.tmp 45) (.tmp 47) 23 40 (.agg #[(.slice none 0 0),(.slice none 0 0),(.int .i64 0)]) 56 rfl Tryd.underlying23 info40 rfl (by decide) (by omega) u3 x3_1 (⟨y153,t137,wrap64 (t141 * t143)⟩:S40) [.slice Ao38 y153.length co38,.slice Ao22 t137.length co22,.int .i64 (wrap64 (t141 * t143))] (fun k_=>some k_≠(.slice Ao15 y129.length co15:Value).ownBlock∧some k_≠(.slice Ao35 y148.length co35:Value).ownBlock∧k_≠gb145) (fun k_=>some k_=(.slice Ao38 y153.length co38:Value).ownBlock∨some k_=(.slice Ao22 t137.length co22:Value).ownBlock) rfl rfl ?aP (fun k_ hk_=>hk_.elim (fun h_=>((Kd.R_mono (ok':=fun k_=>((fun k_=>some k_≠(.slice Ao15 y129.length co15:Value).ownBlock∧some k_≠(.slice Ao35 y148.length co35:Value).ownBlock∧k_≠gb145)) k_∧some k_≠(u3:Value).ownBlock) (Kd.R_types (Kd.R_apart' (HO155.out) (Kd.S_typed HO_3.out) (by decide)) BK145.out (by decide)) (fun k_ hk=>⟨⟨hk.1.1.1,⟨hk.1.1.2,hk.2⟩⟩,hk.1.2⟩))).1 k_ h_.symm) (fun h_=>((Kd.R_mono (ok':=fun k_=>((fun k_=>some k_≠(.slice Ao15 y129.length co15:Value).ownBlock∧some k_≠(.slice Ao35 y148.length co35:Value).ownBlock∧k_≠gb145)) k_∧some k_≠(u3:Value).ownBlock) (Kd.R_types (Kd.R_apart' (Kd.R_apart' (Kd.R_apart' (HO139.out) (Kd.R_typed HO131.out) (by decide)) (Kd.R_typed HO150.out) (by decide)) (Kd.S_typed HO_3.out) (by decide)) BK145.out (by decide)) (fun k_ hk=>⟨⟨hk.1.1.1.2,⟨hk.1.1.2,hk.2⟩⟩,hk.1.2⟩))).1 k_ h_.symm)) ?aF ?aO (Below.refl _ _) ?aS ?aL ?_;(case aP=>exact k40_mkM _ _ _ (⟨y153,t137,wrap64 (t141 * t143)⟩:S40) (Kd.R_mono (Kd.R_tight rfl (Kd.R_mono (ok':=fun k_=>((fun k_=>some k_≠(.slice Ao15 y129.length co15:Value).ownBlock∧some k_≠(.slice Ao35 y148.length co35:Value).ownBlock∧k_≠gb145)) k_∧some k_≠(u3:Value).ownBlock) (Kd.R_types (Kd.R_apart' (HO155.out) (Kd.S_typed HO_3.out) (by decide)) BK145.out (by decide)) (fun k_ hk=>⟨⟨hk.1.1.1,⟨hk.1.1.2,hk.2⟩⟩,hk.1.2⟩))) (fun _ h_=>Or.inl h_)) (Kd.R_mono (Kd.R_tight rfl (Kd.R_mono (ok':=fun k_=>((fun k_=>some k_≠(.slice Ao15 y129.length co15:Value).ownBlock∧some k_≠(.slice Ao35 y148.length co35:Value).ownBlock∧k_≠gb145)) k_∧some k_≠(u3:Value).ownBlock) (Kd.R_types (Kd.R_apart' (Kd.R_apart' (Kd.R_apart' (HO139.out) (Kd.R_typed HO131.out) (by decide)) (Kd.R_typed HO150.out) (by decide)) (Kd.S_typed HO_3.out) (by decide)) BK145.out (by decide)) (fun k_ hk=>⟨⟨hk.1.1.1.2,⟨hk.1.1.2,hk.2⟩⟩,hk.1.2⟩))) (fun _ h_=>Or.inr (h_))));(case aF=>exact (fun k_ hk=>⟨Kd.fresh' (Kd.R_lt (zz15 HO131)) k_ hk,Kd.fresh' (Kd.R_lt (zz15 HO150)) k_ hk,Kd.freshB (zz23 BK145) k_ hk⟩));(case aO=>exact (zz69 HO_3));(case aS=>exact (keep_size (w:=w) (g:=g) (row:=none) (zz63 HK GW145)));(case aL=>exact (zz18 LMc49));intro v160 w52 ho hb hg hat;rw [← Ny159.out] at ho;replace HO131:=A_ (Kd.R_over' (zz15 HO131) (Kd.S_typed (zz57 HO_3)) (by decide) hg);replace BK145:=A_ (blk_grown (zz23 BK145) hg (Kd.S_away HO_3.out (fun _ hk=>hk.2.2.2.2)));replace HO150:=A_ (Kd.R_over' (zz15 HO150) (Kd.S_typed (zz57 HO_3)) (by decide) hg);replace HB:=A_ (below_weaken (zz60 HB HI0 GE145) HL.out hb);replace HI0:=A_ (IsS66.grown (zz59 HI0 NB0_145) hg (IsS66.own_neS HI0.out HO_3.out (by decide)));replace HK:=A_ (KeepBut.trans (zz63 HK GW145) (KeepBut.of_grown hg g) (Kd.S_base2 HO_3.out));have HO161:=A_ (ho);clear HO_3;clear HO139;clear HO155;clear ho hb hg hat))
       go_roundg k1
       case measure=>have:=HK1.out;omega
       case rel=>exact ⟨(y159),(wrap64 (x4_1 - 1)),(t152),zz2,H',⟨(zz18 HK1)⟩,⟨(zz70 HO161)⟩,⟨(zz59 HI0 NB0_145)⟩,⟨(zz63 HK GW145)⟩,⟨(zz60 HB HI0 GE145)⟩⟩
      ·have H':=A_ H
       clear H;have hnb53:=NB145_0.out;have hnc53:=NB0_145.out;obtain ⟨_,_,_,_,_,_⟩:=cf3 BK145;go_wp2
       go_roundg k1
       case measure=>have:=HK1.out;omega
       case rel=>exact ⟨(x3_1),(wrap64 (x4_1 - 1)),(t152),zz2,H',⟨(zz18 HK1)⟩,⟨(zz70 HO_3)⟩,⟨(zz59 HI0 NB0_145)⟩,⟨(zz63 HK GW145)⟩,⟨(zz60 HB HI0 GE145)⟩⟩
    ·(first|rw [c28b0]|(simp only [i64_w,i32_w];rw [c28b0])|skip)
     replace H:=iteE H;rcases H with ⟨c55,H⟩|⟨c55,H⟩
     ·have c55b0:=gtT c55
      have c55b1:decide (0 < t137.length)=true:=dT (by omega);clear c55;replace H:=iteN H;obtain ⟨c56,H⟩:=H;have LMc56:=A_ c56;clear c56;obtain ⟨y162,Ny162⟩:=toY (x3_1++[(⟨y134,t137,wrap64 (t141 * t143)⟩:S40)]);(first|with_reducible replace H:=bindZ Ny162 H|rw [← Ny162.out] at H|skip)
      have H':=A_ H;clear H;have hnb57:=NB145_0.out;have hnc57:=NB0_145.out;obtain ⟨_,_,_,_,_,_⟩:=cf3 BK145;go_wp2_with (first|((with_reducible refine gate_builtin (b:=.append) (xs:=#[.tmp 45,.tmp 47]) rfl ?_);at_builtin;refine Kd.S_append k40 w.heap.size rfl (.tmp 45) (.tmp 47) 23 40 (.agg #[(.slice none 0 0),(.slice none 0 0),(.int .i64 0)]) 56 rfl Tryd.underlying23 info40 rfl (by decide) (by omega) u3 x3_1 (⟨y134,t137,wrap64 (t141 * t143)⟩:S40) [.slice Ao23 y134.length co23,.slice Ao22 t137.length co22,.int .i64 (wrap64 (t141 * t143))] (fun k_=>some k_≠(.slice Ao15 y129.length co15:Value).ownBlock∧k_≠gb145) (fun k_=>some k_=(.slice Ao23 y134.length co23:Value).ownBlock∨some k_=(.slice Ao22 t137.length co22:Value).ownBlock) rfl rfl ?aP (fun k_ hk_=>hk_.elim (fun h_=>((Kd.R_mono (ok':=fun k_=>((fun k_=>some k_≠(.slice Ao15 y129.length co15:Value).ownBlock∧k_≠gb145)) k_∧some k_≠(u3:Value).ownBlock) (Kd.R_types (Kd.R_apart' (HO136.out) (Kd.S_typed HO_3.out) (by decide)) BK145.out (by decide)) (fun k_ hk=>⟨⟨hk.1.1.2,hk.2⟩,hk.1.2⟩))).1 k_ h_.symm) (fun h_=>((Kd.R_mono (ok':=fun k_=>((fun k_=>some k_≠(.slice Ao15 y129.length co15:Value).ownBlock∧k_≠gb145)) k_∧some k_≠(u3:Value).ownBlock) (Kd.R_types (Kd.R_apart' (Kd.R_apart' (HO139.out) (Kd.R_typed HO131.out) (by decide)) (Kd.S_typed HO_3.out) (by decide)) BK145.out (by decide)) (fun k_ hk=>⟨⟨hk.1.1.2,hk.2⟩,hk.1.2⟩))).1 k_ h_.symm)) ?aF ?aO (Below.refl _ _) ?aS ?aL ?_;(case aP=>exact k40_mkM _ _ _ (⟨y134,t137,wrap64 (t141 * t143)⟩:S40) (Kd.R_mono (Kd.R_tight rfl (Kd.R_mono (ok':=fun k_=>((fun k_=>some k_≠(.slice Ao15 y129.length co15:Value).ownBlock∧k_≠gb145)) k_∧some k_≠(u3:Value).ownBlock) (Kd.R_types (Kd.R_apart' (HO136.out) (Kd.S_typed HO_3.out) (by decide)) BK145.out (by decide)) (fun k_ hk=>⟨⟨hk.1.1.2,hk.2⟩,hk.1.2⟩))) (fun _ h_=>Or.inl h_)) (Kd.R_mono (Kd.R_tight rfl (Kd.R_mono (ok':=fun k_=>((fun k_=>some k_≠(.slice Ao15 y129.length co15:Value).ownBlock∧k_≠gb145)) k_∧some k_≠(u3:Value).ownBlock) (Kd.R_types (Kd.R_apart' (Kd.R_apart' (HO139.out) (Kd.R_typed HO131.out) (by decide)) (Kd.S_typed HO_3.out) (by decide)) BK145.out (by decide)) (fun k_ hk=>⟨⟨hk.1.1.2,hk.2⟩,hk.1.2⟩))) (fun _ h_=>Or.inr (h_))));(case aF=>exact (fun k_ hk=>⟨Kd.fresh' (Kd.R_lt (zz15 HO131)) k_ hk,Kd.freshB (zz23 BK145) k_ hk⟩));(case aO=>exact (zz71 HO_3));(case aS=>exact (keep_size (w:=w) (g:=g) (row:=none) (zz63 HK GW145)));(case aL=>exact (zz18 LMc56));intro v163 w59 ho hb hg hat;rw [← Ny162.out] at ho;replace HO131:=A_ (Kd.R_over' (zz15 HO131) (Kd.S_typed (zz57 HO_3)) (by decide) hg);replace BK145:=A_ (blk_grown (zz23 BK145) hg (Kd.S_away HO_3.out (fun _ hk=>hk.2)));replace HB:=A_ (below_weaken (zz60 HB HI0 GE145) HL.out hb);replace HI0:=A_ (IsS66.grown (zz59 HI0 NB0_145) hg (IsS66.own_neS HI0.out HO_3.out (by decide)));replace HK:=A_ (KeepBut.trans (zz63 HK GW145) (KeepBut.of_grown hg g) (Kd.S_base2 HO_3.out));have HO164:=A_ (ho);clear HO_3;clear HO136;clear HO139;clear ho hb hg hat))
      go_roundg k1
      case measure=>have:=HK1.out;omega
      case rel=>exact ⟨(y162),(wrap64 (x4_1 - 1)),(t147),zz2,H',⟨(zz18 HK1)⟩,⟨(zz70 HO164)⟩,⟨(zz59 HI0 NB0_145)⟩,⟨(zz63 HK GW145)⟩,⟨(zz60 HB HI0 GE145)⟩⟩
     ·have c55b0:=gtF c55
      have c55b1:decide (0 < t137.length)=false:=dF (by omega);clear c55;replace H:=iteEg H;rcases H with ⟨c60b0,H⟩|⟨c60b0,H⟩
      ·replace H:=iteN H
       obtain ⟨c61,H⟩:=H;have LMc61:=A_ c61;clear c61;obtain ⟨y165,Ny165⟩:=toY (x3_1++[(⟨y134,t137,wrap64 (t141 * t143)⟩:S40)]);(first|with_reducible replace H:=bindZ Ny165 H|rw [← Ny165.out] at H|skip)
       have H':=A_ H;clear H;have hnb62:=NB145_0.out;have hnc62:=NB0_145.out;obtain ⟨_,_,_,_,_,_⟩:=cf3 BK145;go_wp2_with (first|((with_reducible refine gate_builtin (b:=.append) (xs:=#[.tmp 45,.tmp 47]) rfl ?_);at_builtin;refine Kd.S_append k40 w.heap.size rfl (.tmp 45) (.tmp 47) 23 40 (.agg #[(.slice none 0 0),(.slice none 0 0),(.int .i64 0)]) 56 rfl Tryd.underlying23 info40 rfl (by decide) (by omega) u3 x3_1 (⟨y134,t137,wrap64 (t141 * t143)⟩:S40) [.slice Ao23 y134.length co23,.slice Ao22 t137.length co22,.int .i64 (wrap64 (t141 * t143))] (fun k_=>some k_≠(.slice Ao15 y129.length co15:Value).ownBlock∧k_≠gb145) (fun k_=>some k_=(.slice Ao23 y134.length co23:Value).ownBlock∨some k_=(.slice Ao22 t137.length co22:Value).ownBlock) rfl rfl ?aP (fun k_ hk_=>hk_.elim (fun h_=>((Kd.R_mono (ok':=fun k_=>((fun k_=>some k_≠(.slice Ao15 y129.length co15:Value).ownBlock∧k_≠gb145)) k_∧some k_≠(u3:Value).ownBlock) (Kd.R_types (Kd.R_apart' (HO136.out) (Kd.S_typed HO_3.out) (by decide)) BK145.out (by decide)) (fun k_ hk=>⟨⟨hk.1.1.2,hk.2⟩,hk.1.2⟩))).1 k_ h_.symm) (fun h_=>((Kd.R_mono (ok':=fun k_=>((fun k_=>some k_≠(.slice Ao15 y129.length co15:Value).ownBlock∧k_≠gb145)) k_∧some k_≠(u3:Value).ownBlock) (Kd.R_types (Kd.R_apart' (Kd.R_apart' (HO139.out) (Kd.R_typed HO131.out) (by decide)) (Kd.S_typed HO_3.out) (by decide)) BK145.out (by decide)) (fun k_ hk=>⟨⟨hk.1.1.2,hk.2⟩,hk.1.2⟩))).1 k_ h_.symm)) ?aF ?aO (Below.refl _ _) ?aS ?aL ?_;(case aP=>exact k40_mkM _ _ _ (⟨y134,t137,wrap64 (t141 * t143)⟩:S40) (Kd.R_mono (Kd.R_tight rfl (Kd.R_mono (ok':=fun k_=>((fun k_=>some k_≠(.slice Ao15 y129.length co15:Value).ownBlock∧k_≠gb145)) k_∧some k_≠(u3:Value).ownBlock) (Kd.R_types (Kd.R_apart' (HO136.out) (Kd.S_typed HO_3.out) (by decide)) BK145.out (by decide)) (fun k_ hk=>⟨⟨hk.1.1.2,hk.2⟩,hk.1.2⟩))) (fun _ h_=>Or.inl h_)) (Kd.R_mono (Kd.R_tight rfl (Kd.R_mono (ok':=fun k_=>((fun k_=>some k_≠(.slice Ao15 y129.length co15:Value).ownBlock∧k_≠gb145)) k_∧some k_≠(u3:Value).ownBlock) (Kd.R_types (Kd.R_apart' (Kd.R_apart' (HO139.out) (Kd.R_typed HO131.out) (by decide)) (Kd.S_typed HO_3.out) (by decide)) BK145.out (by decide)) (fun k_ hk=>⟨⟨hk.1.1.2,hk.2⟩,hk.1.2⟩))) (fun _ h_=>Or.inr (h_))));(case aF=>exact (fun k_ hk=>⟨Kd.fresh' (Kd.R_lt (zz15 HO131)) k_ hk,Kd.freshB (zz23 BK145) k_ hk⟩));(case aO=>exact (zz71 HO_3));(case aS=>exact (keep_size (w:=w) (g:=g) (row:=none) (zz63 HK GW145)));(case aL=>exact (zz18 LMc61));intro v166 w64 ho hb hg hat;rw [← Ny165.out] at ho;replace HO131:=A_ (Kd.R_over' (zz15 HO131) (Kd.S_typed (zz57 HO_3)) (by decide) hg);replace BK145:=A_ (blk_grown (zz23 BK145) hg (Kd.S_away HO_3.out (fun _ hk=>hk.2)));replace HB:=A_ (below_weaken (zz60 HB HI0 GE145) HL.out hb);replace HI0:=A_ (IsS66.grown (zz59 HI0 NB0_145) hg (IsS66.own_neS HI0.out HO_3.out (by decide)));replace HK:=A_ (KeepBut.trans (zz63 HK GW145) (KeepBut.of_grown hg g) (Kd.S_base2 HO_3.out));have HO167:=A_ (ho);clear HO_3;clear HO136;clear HO139;clear ho hb hg hat))
       go_roundg k1
       case measure=>have:=HK1.out;omega
       case rel=>exact ⟨(y165),(wrap64 (x4_1 - 1)),(t147),zz2,H',⟨(zz18 HK1)⟩,⟨(zz70 HO167)⟩,⟨(zz59 HI0 NB0_145)⟩,⟨(zz63 HK GW145)⟩,⟨(zz60 HB HI0 GE145)⟩⟩
      ·have H':=A_ H
       clear H;have hnb65:=NB145_0.out;have hnc65:=NB0_145.out;obtain ⟨_,_,_,_,_,_⟩:=cf3 BK145;go_wp2
       go_roundg k1
       case measure=>have:=HK1.out;omega
       case rel=>exact ⟨(x3_1),(wrap64 (x4_1 - 1)),(t147),zz2,H',⟨(zz18 HK1)⟩,⟨(zz70 HO_3)⟩,⟨(zz59 HI0 NB0_145)⟩,⟨(zz63 HK GW145)⟩,⟨(zz60 HB HI0 GE145)⟩⟩
   ·replace H:=bindA H
    obtain ⟨⟨t168,t169⟩,A67,H⟩:=H;try dsimp only at H
    have HF68:=A_ H;clear H;go_upto_if 51 with (first|(refine gR 25 (some 50) Tryd.func25 (spec_l6Rd_pick.calls k1 g s0_0 x1001_1 24 t168 t169 w0 _ ?side1 ?side2 A67.out) ?_;(case side1=>exact (zz4 HI0));(case side2=>exact (zz6 HB HI0));rintro w69 ⟨hi,hb,hk⟩;replace HO_3:=A_ (Kd.S_mono (Kd.S_keep (IsS66.apartS (show IsS66 w0 _ g s0_0 x1001_1 from (zz4 HI0)) (zz57 HO_3) (by decide)) hk (fun _ h=>h.2)) (fun _ h=>h.1));replace HK:=A_ (KeepBut.trans (zz5 HK) hk (.inl rfl));replace HB:=A_ (hb);replace HI0:=A_ (hi);(try clear hb hk hi)))
    obtain ⟨H⟩:=HF68;replace H:=iteEq H;rcases H with ⟨c70b0,c70b1,H⟩|⟨c70b0,c70b1,c70,H⟩
    ·(first|rw [c70b0]|(simp only [i64_w,i32_w];rw [c70b0])|skip)
     obtain ⟨y170,Ny170⟩:=toY (([(⟨#[120]⟩:ByteArray)]:List ByteArray));(first|with_reducible replace H:=bindZ Ny170 H|rw [← Ny170.out] at H|skip)
     replace H:=iteN H;obtain ⟨c71,H⟩:=H;have LMc71:=A_ c71;clear c71;obtain ⟨y173,Ny173⟩:=toY (x3_1++[(⟨y170,([]:List (S51)),0⟩:S40)]);(first|with_reducible replace H:=bindZ Ny173 H|rw [← Ny173.out] at H|skip)
     simp only [Option.some.injEq,Prod.mk.injEq] at H
     obtain ⟨rfl,rfl⟩:=H;go_wp2_with (first|((with_reducible refine gD (N:=54) rfl ?_);refine Kd.R_lit Kd.string _ 9 ?hg (N:=54) ?hd (xs:=([(⟨#[120]⟩:ByteArray)]:List ByteArray)) (inner:=[.string (⟨#[120]⟩:ByteArray)]) (ok:=fun _=>True) (okp:=fun _=>True) ?hr ?hp (fun _ hk=>hk) trivial (Below.refl _ _) (Nat.le_refl _) (by simp) ?_;(case hd=>rfl);(case hg=>rfl);(case hr=>exact zz13);(case hp=>exact (Reps.one (show Kd.M Kd.string _ _ _ (⟨#[120]⟩:ByteArray) [.string (⟨#[120]⟩:ByteArray)] from rfl) (Reps.none _ _)));intro v171 w72 ho73 hb hg_ hnew_;clear hg_ hnew_;(first|rw [← Ny170.out] at ho73|(simp only [Int.reduceToNat] at ho73;rw [← Ny170.out] at ho73));replace HO_3:=A_ (Kd.S_elder' (zz57 HO_3) (Kd.R_base ho73) hb);have HO172:=A_ (Kd.R_lower ho73 (keep_size (w:=w) (g:=g) (row:=none) (zz5 HK)));replace HK:=A_ (KeepBut.trans (zz5 HK) (KeepBut.of_below hb g none) (.inl rfl));replace HB:=A_ (bS (zz6 HB HI0) hb);replace HI0:=A_ (IsS66.below (zz4 HI0) hb);clear hb ho73;obtain ⟨Ao74,co74,eo74⟩:=Kd.R_slice HO172.out;subst eo74)|((with_reducible refine gate_builtin (b:=.append) (xs:=#[.tmp 53,.tmp 56]) rfl ?_);at_builtin;refine Kd.S_append k40 w.heap.size rfl (.tmp 53) (.tmp 56) 23 40 (.agg #[(.slice none 0 0),(.slice none 0 0),(.int .i64 0)]) 56 rfl Tryd.underlying23 info40 rfl (by decide) (by omega) u3 x3_1 (⟨y170,([]:List (S51)),0⟩:S40) [.slice Ao74 y170.length co74,.slice none 0 0,.int .i64 0] (fun _=>True) (fun k_=>some k_=(.slice Ao74 y170.length co74:Value).ownBlock) rfl rfl ?aP (fun k_ hk_=>((Kd.R_mono (ok':=fun k_=>((fun _=>True)) k_∧some k_≠(u3:Value).ownBlock) (Kd.R_apart' (HO172.out) (Kd.S_typed HO_3.out) (by decide)) (fun k_ hk=>⟨trivial,hk.2⟩))).1 k_ hk_.symm) ?aF ?aO (Below.refl _ _) ?aS ?aL ?_;(case aP=>exact k40_mkM _ _ _ (⟨y170,([]:List (S51)),0⟩:S40) (Kd.R_mono (Kd.R_tight rfl (Kd.R_mono (ok':=fun k_=>((fun _=>True)) k_∧some k_≠(u3:Value).ownBlock) (Kd.R_apart' (HO172.out) (Kd.S_typed HO_3.out) (by decide)) (fun k_ hk=>⟨trivial,hk.2⟩))) (fun _ h_=>h_)) (Kd.R_nil _ _ _ _ _));(case aF=>exact (fun _ _=>trivial));(case aO=>exact (zz72 HO_3));(case aS=>exact (keep_size (w:=w) (g:=g) (row:=none) (zz5 HK)));(case aL=>exact (zz18 LMc71));intro v174 w75 ho hb hg hat;rw [← Ny173.out] at ho;replace HB:=A_ (below_weaken (zz6 HB HI0) HL.out hb);replace HI0:=A_ (IsS66.grown (zz4 HI0) hg (IsS66.own_neS HI0.out HO_3.out (by decide)));replace HK:=A_ (KeepBut.trans (zz5 HK) (KeepBut.of_grown hg g) (Kd.S_base2 HO_3.out));have HO175:=A_ (ho);clear HO_3;clear HO172;clear ho hb hg hat))
     go_ret
     exact ⟨_,zz8,(zz57 HO175),(zz4 HI0),(zz6 HB HI0),(zz5 HK)⟩
    ·(first|rw [c70b0]|(simp only [i64_w,i32_w];rw [c70b0])|skip)
     replace H:=iteEq H;rcases H with ⟨c76b0,c76b1,H⟩|⟨c76b0,c76b1,c76,H⟩
     ·replace H:=iteN H
      obtain ⟨c77,H⟩:=H;have LMc77:=A_ c77;clear c77;obtain ⟨y176,Ny176⟩:=toY (x3_1++[(⟨([]:List ByteArray),([]:List (S51)),2⟩:S40)]);(first|with_reducible replace H:=bindZ Ny176 H|rw [← Ny176.out] at H|skip)
      simp only [Option.some.injEq,Prod.mk.injEq] at H
      obtain ⟨rfl,rfl⟩:=H;go_wp2_with (first|((with_reducible refine gate_builtin (b:=.append) (xs:=#[.tmp 60,.tmp 62]) rfl ?_);at_builtin;refine Kd.S_append k40 w.heap.size rfl (.tmp 60) (.tmp 62) 23 40 (.agg #[(.slice none 0 0),(.slice none 0 0),(.int .i64 0)]) 56 rfl Tryd.underlying23 info40 rfl (by decide) (by omega) u3 x3_1 (⟨([]:List ByteArray),([]:List (S51)),2⟩:S40) [.slice none 0 0,.slice none 0 0,.int .i64 2] (fun _=>True) (fun _=>False) rfl rfl ?aP (fun k_ hk_=>hk_.elim) ?aF ?aO (Below.refl _ _) ?aS ?aL ?_;(case aP=>exact k40_mkM _ _ _ (⟨([]:List ByteArray),([]:List (S51)),2⟩:S40) (Kd.R_nil _ _ _ _ _) (Kd.R_nil _ _ _ _ _));(case aF=>exact (fun _ _=>trivial));(case aO=>exact (by (with_reducible repeat (first|apply Kd.S_alloc|apply Kd.S_drewN|apply Kd.S_drew));exact Kd.S_mono HO_3.out (fun k_ hk=>⟨trivial,fun e_=>e_⟩)));(case aS=>exact (keep_size (w:=w) (g:=g) (row:=none) (zz5 HK)));(case aL=>exact (zz18 LMc77));intro v177 w78 ho hb hg hat;rw [← Ny176.out] at ho;replace HB:=A_ (below_weaken (zz6 HB HI0) HL.out hb);replace HI0:=A_ (IsS66.grown (zz4 HI0) hg (IsS66.own_neS HI0.out HO_3.out (by decide)));replace HK:=A_ (KeepBut.trans (zz5 HK) (KeepBut.of_grown hg g) (Kd.S_base2 HO_3.out));have HO178:=A_ (ho);clear HO_3;clear ho hb hg hat))
      go_ret
      exact ⟨_,zz8,(zz57 HO178),(zz4 HI0),(zz6 HB HI0),(zz5 HK)⟩
     ·replace H:=iteEq H
      rcases H with ⟨c79b0,c79b1,H⟩|⟨c79b0,c79b1,c79,H⟩
      ·obtain ⟨y179,Ny179⟩:=toY (([(⟨#[88]⟩:ByteArray)]:List ByteArray))
       (first|with_reducible replace H:=bindZ Ny179 H|rw [← Ny179.out] at H|skip)
       replace H:=iteN H;obtain ⟨c80,H⟩:=H;have LMc80:=A_ c80;clear c80;obtain ⟨y182,Ny182⟩:=toY (x3_1++[(⟨y179,([]:List (S51)),2⟩:S40)]);(first|with_reducible replace H:=bindZ Ny182 H|rw [← Ny182.out] at H|skip)
       simp only [Option.some.injEq,Prod.mk.injEq] at H
       obtain ⟨rfl,rfl⟩:=H;go_wp2_with (first|((with_reducible refine gD (N:=67) rfl ?_);refine Kd.R_lit Kd.string _ 9 ?hg (N:=67) ?hd (xs:=([(⟨#[88]⟩:ByteArray)]:List ByteArray)) (inner:=[.string (⟨#[88]⟩:ByteArray)]) (ok:=fun _=>True) (okp:=fun _=>True) ?hr ?hp (fun _ hk=>hk) trivial (Below.refl _ _) (Nat.le_refl _) (by simp) ?_;(case hd=>rfl);(case hg=>rfl);(case hr=>exact zz13);(case hp=>exact (Reps.one (show Kd.M Kd.string _ _ _ (⟨#[88]⟩:ByteArray) [.string (⟨#[88]⟩:ByteArray)] from rfl) (Reps.none _ _)));intro v180 w81 ho82 hb hg_ hnew_;clear hg_ hnew_;(first|rw [← Ny179.out] at ho82|(simp only [Int.reduceToNat] at ho82;rw [← Ny179.out] at ho82));replace HO_3:=A_ (Kd.S_elder' (zz57 HO_3) (Kd.R_base ho82) hb);have HO181:=A_ (Kd.R_lower ho82 (keep_size (w:=w) (g:=g) (row:=none) (zz5 HK)));replace HK:=A_ (KeepBut.trans (zz5 HK) (KeepBut.of_below hb g none) (.inl rfl));replace HB:=A_ (bS (zz6 HB HI0) hb);replace HI0:=A_ (IsS66.below (zz4 HI0) hb);clear hb ho82;obtain ⟨Ao83,co83,eo83⟩:=Kd.R_slice HO181.out;subst eo83)|((with_reducible refine gate_builtin (b:=.append) (xs:=#[.tmp 66,.tmp 69]) rfl ?_);at_builtin;refine Kd.S_append k40 w.heap.size rfl (.tmp 66) (.tmp 69) 23 40 (.agg #[(.slice none 0 0),(.slice none 0 0),(.int .i64 0)]) 56 rfl Tryd.underlying23 info40 rfl (by decide) (by omega) u3 x3_1 (⟨y179,([]:List (S51)),2⟩:S40) [.slice Ao83 y179.length co83,.slice none 0 0,.int .i64 2] (fun _=>True) (fun k_=>some k_=(.slice Ao83 y179.length co83:Value).ownBlock) rfl rfl ?aP (fun k_ hk_=>((Kd.R_mono (ok':=fun k_=>((fun _=>True)) k_∧some k_≠(u3:Value).ownBlock) (Kd.R_apart' (HO181.out) (Kd.S_typed HO_3.out) (by decide)) (fun k_ hk=>⟨trivial,hk.2⟩))).1 k_ hk_.symm) ?aF ?aO (Below.refl _ _) ?aS ?aL ?_;(case aP=>exact k40_mkM _ _ _ (⟨y179,([]:List (S51)),2⟩:S40) (Kd.R_mono (Kd.R_tight rfl (Kd.R_mono (ok':=fun k_=>((fun _=>True)) k_∧some k_≠(u3:Value).ownBlock) (Kd.R_apart' (HO181.out) (Kd.S_typed HO_3.out) (by decide)) (fun k_ hk=>⟨trivial,hk.2⟩))) (fun _ h_=>h_)) (Kd.R_nil _ _ _ _ _));(case aF=>exact (fun _ _=>trivial));(case aO=>exact (zz72 HO_3));(case aS=>exact (keep_size (w:=w) (g:=g) (row:=none) (zz5 HK)));(case aL=>exact (zz18 LMc80));intro v183 w84 ho hb hg hat;rw [← Ny182.out] at ho;replace HB:=A_ (below_weaken (zz6 HB HI0) HL.out hb);replace HI0:=A_ (IsS66.grown (zz4 HI0) hg (IsS66.own_neS HI0.out HO_3.out (by decide)));replace HK:=A_ (KeepBut.trans (zz5 HK) (KeepBut.of_grown hg g) (Kd.S_base2 HO_3.out));have HO184:=A_ (ho);clear HO_3;clear HO181;clear ho hb hg hat))
       go_ret
       exact ⟨_,zz8,(zz57 HO184),(zz4 HI0),(zz6 HB HI0),(zz5 HK)⟩
      ·simp only [Option.some.injEq,Prod.mk.injEq] at H
       obtain ⟨rfl,rfl⟩:=H;go_wp2
       go_ret
       exact ⟨_,zz8,(zz57 HO_3),(zz4 HI0),(zz6 HB HI0),(zz5 HK)⟩
def spec_DrawNoticeText.f (k:Nat) (l0:List Int):Option ((List (S40))):=(spec_l6Open.f l0).bind fun bt188=>((spec_l71Groups.f k bt188.1 bt188.2).bind fun bt191=>(some bt191.1))
theorem spec_DrawNoticeText.calls (k:Nat) (A0:Option Addr) (c0:Nat) (l0:List Int) (r:List (S40)) (w:World) (hr0:Kd.C (Kd.int .u8) w A0 l0.length l0) (hc0:l0.length≤c0) (h:spec_DrawNoticeText.f k l0=some r) :
  Calls Tryd.prog 5 #[.slice A0 l0.length c0] w fun e w'=>∃ v0_:Value,e=.returned (v0_)∧Kd.S k40 40 w' w.heap.size (fun _=>True) v0_ r∧Below w.heap.size w w':=by
 have HR0:=A_ hr0;have HC0:=A_ hc0;clear hr0 hc0;have HB:=A_ (Below.refl w.heap.size w);unfold spec_DrawNoticeText.f at h
 have H:=h;clear h;replace H:=bindA H;obtain ⟨⟨t188,t189⟩,A2,H⟩:=H;try dsimp only at H
 replace H:=bindA H;obtain ⟨⟨t191,t194⟩,A3,H⟩:=H;try dsimp only at H
 obtain rfl:=sI H;go_enter Tryd.func5,Tryd.ntmps5;go_wp2_with (first|(refine gV 12 (some 4) Tryd.func12 (spec_l6Open.calls _ _ l0 t188 t189 w _ ?side1 ?side2 ?side3 A2.out) ?_;(case side1=>exact (zz12 HB));(case side2=>exact HR0.out);(case side3=>exact HC0.out);rintro g190 w4 ⟨hi,hb,hb2⟩;replace HB:=A_ (hb);have HI190:=A_ (hi);(try clear hb hb2 hi))|(refine gV 11 (some 5) Tryd.func11 (spec_l71Groups.calls k g190 t188 t189 t191 t194 w _ ?side1 ?side2 A3.out) ?_;(case side1=>exact (zz4 HI190));(case side2=>exact (zz6 HB HI190));rintro v192 w5 ⟨ho0,hi,hb,hk⟩;have HO193:=A_ (Kd.S_lower ho0 (below_size (zz6 HB HI190)));replace HB:=A_ (hb);replace HI190:=A_ (hi);(try clear hb hk hi ho0)))
 go_ret
 exact ⟨_,zz8,(zz57 HO193),(zz6 HB HI190)⟩
mutual
def impl_groupOk.j0:Nat→Bool→List ByteArray→List (S51)→Int→Option (Bool)
 | 0,_,_,_,_=>none
 | k+1,x24,x206000,x206001,x206002=>if x24=true then (some false) else (if (x206001.length:Int)=0 then (impl_groupOk.j1 k (x206002 == 0) x206000 x206001 x206002) else (impl_groupOk.j1 k false x206000 x206001 x206002))
def impl_groupOk.j1:Nat→Bool→List ByteArray→List (S51)→Int→Option (Bool)
 | 0,_,_,_,_=>none
 | k+1,x33,x206000,x206001,x206002=>if x33=true then (some false) else (impl_groupOk.l0 k x206000 (x206000.length:Int) 0 x206000 x206001 x206002)
def impl_groupOk.l0:Nat→List ByteArray→Int→Int→List ByteArray→List (S51)→Int→Option (Bool)
 | 0,_,_,_,_,_,_=>none
 | k+1,x35,x36,x37,x206000,x206001,x206002=>if x37 < x36 then (if 0≤x37 then (if x37 < (x35.length:Int) then ((impl_isGroupName.f k (rdOf ByteArray.empty x35 x37)).bind fun t207=>(if t207=true then (impl_groupOk.l0 k x35 x36 (wrap64 (x37+1)) x206000 x206001 x206002) else (some false))) else (none)) else (none)) else ((impl_rulesOk.f k x206001).bind fun t208=>(some t208))
end
def impl_groupOk.f (k:Nat) (l0_0:List ByteArray) (l0_1:List (S51)) (a0_2:Int):Option (Bool):=if (l0_0.length:Int)=0 then (impl_groupOk.j0 k true l0_0 l0_1 a0_2) else (if (l0_1.length:Int) > 6 then (impl_groupOk.j0 k true l0_0 l0_1 a0_2) else (if a0_2 < 0 then (impl_groupOk.j0 k true l0_0 l0_1 a0_2) else (impl_groupOk.j0 k (decide (a0_2 > 20)) l0_0 l0_1 a0_2)))
theorem impl_groupOk.calls (k:Nat) (A0_0:Option Addr) (c0_0:Nat) (l0_0:List ByteArray) (A0_1:Option Addr) (c0_1:Nat) (l0_1:List (S51)) (a0_2:Int) (r:Bool) (w:World) (hr0_0:Kd.C Kd.string w A0_0 l0_0.length l0_0) (hc0_0:l0_0.length≤c0_0) (hr0_1:Kd.C k51 w A0_1 l0_1.length l0_1) (hc0_1:l0_1.length≤c0_1) (h:impl_groupOk.f k l0_0 l0_1 a0_2=some r) :
  Calls Tryd.prog 28 #[.agg #[.slice A0_0 l0_0.length c0_0,.slice A0_1 l0_1.length c0_1,.int .i64 a0_2]] w fun e w'=>e=.returned (.bool r)∧Below w.heap.size w w':=by
 have hu40:=Tryd.underlying40;have HR0_0:=A_ hr0_0;have HC0_0:=A_ hc0_0;clear hr0_0 hc0_0;have HR0_1:=A_ hr0_1;have HC0_1:=A_ hc0_1;clear hr0_1 hc0_1;have HB:=A_ (Below.refl w.heap.size w);unfold impl_groupOk.f at h
 have H:=h;clear h;have HC2:=A_ H;clear H;go_enter Tryd.func28,Tryd.ntmps28;go_upto_region 1 with (first|((with_reducible refine gD (N:=1) rfl ?_);(try (refine gate_guard (by rfl) ?_;dsimp only));refine boxE 1 #[.slice A0_0 l0_0.length c0_0,.slice A0_1 l0_1.length c0_1,.int .i64 a0_2] 40 ?_;intro gb205 hg w3 hbox hb;have BK205:=A_ (hbox);have GE205:=geB hg (zz12 HB);replace HB:=A_ (bS (zz12 HB) hb);clear hb hbox hg))
 (try simp only [Act.put,List.setIfInBounds_toArray,List.set_cons_zero,List.set_cons_succ])
 go_cut [24] (fun v24 wc=>∃ (kq:Nat) (x24_1:Bool),v24=.bool x24_1∧Aside0 (impl_groupOk.j0 kq x24_1 l0_0 l0_1 a0_2=some r)∧Aside0 (kq≤k)∧Aside0 (wc.heap[gb205]?=some (.cells #[(.slice A0_0 l0_0.length c0_0),(.slice A0_1 l0_1.length c0_1),.int .i64 a0_2] 40 (0,0)))∧Aside0 (Below w.heap.size w wc))
 case first=>
  obtain ⟨H⟩:=HC2;replace H:=iteEq H;rcases H with ⟨c4b0,c4b1,H⟩|⟨c4b0,c4b1,c4,H⟩
  ·(first|rw [c4b0]|(simp only [i64_w,i32_w];rw [c4b0])|skip)
   have H':=A_ H;clear H;obtain ⟨_,_,_,_,_,_⟩:=cf3 BK205;go_wp2
   go_meet
   case rel=>exact ⟨_,(true),zz2,H',⟨zz3⟩,⟨(zz23 BK205)⟩,⟨(zz24 HB GE205)⟩⟩
  ·have c4b2:¬ (l0_0=[]):=fun h_=>c4 (by rw [h_];rfl)
   (first|rw [c4b0]|(simp only [i64_w,i32_w];rw [c4b0])|skip)
   replace H:=iteE H;rcases H with ⟨c6,H⟩|⟨c6,H⟩
   ·have c6b0:=gtT c6
    have c6b1:decide (6 < l0_1.length)=true:=dT (by omega);clear c6;have H':=A_ H;clear H;obtain ⟨_,_,_,_,_,_⟩:=cf3 BK205;go_wp2
    go_meet
    case rel=>exact ⟨_,(true),zz2,H',⟨zz3⟩,⟨(zz23 BK205)⟩,⟨(zz24 HB GE205)⟩⟩
   ·have c6b0:=gtF c6
    have c6b1:decide (6 < l0_1.length)=false:=dF (by omega);clear c6;replace H:=iteEd H;rcases H with ⟨c8b0,H⟩|⟨c8b0,H⟩
    ·have H':=A_ H
     clear H;obtain ⟨_,_,_,_,_,_⟩:=cf3 BK205;go_wp2
     go_meet
     case rel=>exact ⟨_,(true),zz2,H',⟨zz3⟩,⟨(zz23 BK205)⟩,⟨(zz24 HB GE205)⟩⟩
    ·have H':=A_ H
     clear H;obtain ⟨_,_,_,_,_,_⟩:=cf3 BK205;go_wp2
     go_meet
     case rel=>exact ⟨_,(decide (a0_2 > 20)),zz2,H',⟨zz3⟩,⟨(zz23 BK205)⟩,⟨(zz24 HB GE205)⟩⟩
 case rest=>
  clear HC2;obtain ⟨kq,x24_1,rfl,HA,HJ1,BK205,HB⟩:=hcut;cases kq with
  | zero=>exact absurd HA.out (by simp [impl_groupOk.j0])
  | succ kj1=>
   obtain ⟨H⟩:=HA;simp only [impl_groupOk.j0] at H
   replace H:=iteB H;rcases H with ⟨rfl,H⟩|⟨rfl,H⟩
   ·obtain rfl:=sI H
    go_wp2
    go_ret
    exact ⟨zz8,(zz24 HB GE205)⟩
   ·have HC12:=A_ H
    clear H;go_upto_region 3 with (fail)
    go_cut [33] (fun v33 wc=>∃ (kq:Nat) (x33_11:Bool),v33=.bool x33_11∧Aside0 (impl_groupOk.j1 kq x33_11 l0_0 l0_1 a0_2=some r)∧Aside0 (kq≤kj1)∧Aside0 (wc.heap[gb205]?=some (.cells #[(.slice A0_0 l0_0.length c0_0),(.slice A0_1 l0_1.length c0_1),.int .i64 a0_2] 40 (0,0)))∧Aside0 (Below w.heap.size w wc))
    case first=>
     obtain ⟨H⟩:=HC12;replace H:=iteEq H;rcases H with ⟨c13b0,c13b1,H⟩|⟨c13b0,c13b1,c13,H⟩
     ·(first|rw [c13b0]|(simp only [i64_w,i32_w];rw [c13b0])|skip)
      have H':=A_ H;clear H;obtain ⟨_,_,_,_,_,_⟩:=cf3 BK205;go_wp2
      go_meet
      case rel=>exact ⟨_,((a0_2 == 0)),zz2,H',⟨(zz38 HJ1)⟩,⟨(zz23 BK205)⟩,⟨(zz24 HB GE205)⟩⟩
     ·have c13b2:¬ (l0_1=[]):=fun h_=>c13 (by rw [h_];rfl)
      (first|rw [c13b0]|(simp only [i64_w,i32_w];rw [c13b0])|skip)
      have H':=A_ H;clear H;obtain ⟨_,_,_,_,_,_⟩:=cf3 BK205;go_wp2
      go_meet
      case rel=>exact ⟨_,(false),zz2,H',⟨(zz38 HJ1)⟩,⟨(zz23 BK205)⟩,⟨(zz24 HB GE205)⟩⟩
    case rest=>
     clear HC12;obtain ⟨kq,x33_11,rfl,HA,HJ11,BK205,HB⟩:=hcut;cases kq with
     | zero=>exact absurd HA.out (by simp [impl_groupOk.j1])
     | succ kj11=>
      obtain ⟨H⟩:=HA;simp only [impl_groupOk.j1] at H
      replace H:=iteB H;rcases H with ⟨rfl,H⟩|⟨rfl,H⟩
      ·obtain rfl:=sI H
       go_wp2
       go_ret
       exact ⟨zz8,(zz24 HB GE205)⟩
      ·have H':=A_ H
       clear H;obtain ⟨_,_,_,_,_,_⟩:=cf3 BK205;go_wp2
       go_loopg [37] kj11 (fun kq v37 w'=>∃ (x37_3:Int),v37=.int .i64 x37_3∧Aside0 (impl_groupOk.l0 kq l0_0 (l0_0.length:Int) x37_3 l0_0 l0_1 a0_2=some r)∧Aside0 (kq≤kj11)∧Aside0 (w'.heap[gb205]?=some (.cells #[(.slice A0_0 l0_0.length c0_0),(.slice A0_1 l0_1.length c0_1),.int .i64 a0_2] 40 (0,0)))∧Aside0 (Below w.heap.size w w'))
       case atStart=>exact ⟨(0),zz2,H',⟨Nat.le_refl _⟩,⟨(zz23 BK205)⟩,⟨(zz24 HB GE205)⟩⟩
       case round=>
        clear H';obtain ⟨x37_3,rfl,HA,HK3,BK205,HB⟩:=hrel;cases gk with
        | zero=>exact absurd HA.out (by simp [impl_groupOk.l0])
        | succ k3=>
         obtain ⟨H⟩:=HA;simp only [impl_groupOk.l0] at H
         replace H:=iteEd H;rcases H with ⟨c18b0,H⟩|⟨c18b0,H⟩
         ·replace H:=iteNd H
          obtain ⟨c19b0,H⟩:=H;replace H:=iteNd H;obtain ⟨c20b0,H⟩:=H;replace H:=bindA H;obtain ⟨t207,A21,H⟩:=H;have HF22:=A_ H;clear H;obtain ⟨⟨ad206,e206,hx206_0⟩,p206,q206⟩:=atB (Kd.at_string HR0_0.out x37_3);cases e206
          replace hx206_0:=cbl HB hx206_0;go_upto_if 43 with (first|(refine gR 35 (some 42) Tryd.func35 (impl_isGroupName.calls k3 (rdOf ByteArray.empty l0_0 x37_3) t207 _ A21.out) ?_;rintro w' ⟨nd,rfl⟩))
          obtain ⟨H⟩:=HF22;replace H:=iteB H;rcases H with ⟨rfl,H⟩|⟨rfl,H⟩
          ·have H':=A_ H
           clear H;go_wp2
           go_roundg k3
           case measure=>have:=HJ1.out;have:=HJ11.out;have:=HK3.out;omega
           case rel=>exact ⟨(wrap64 (x37_3+1)),zz2,H',⟨(zz42 HJ1 HJ11 HK3)⟩,⟨(zz23 BK205)⟩,⟨(zz24 HB GE205)⟩⟩
          ·obtain rfl:=sI H
           go_wp2
           go_ret
           exact ⟨zz8,(zz24 HB GE205)⟩
         ·replace H:=bindA H
          obtain ⟨t208,A24,H⟩:=H;obtain rfl:=sI H;obtain ⟨_,_,_,_,_,_⟩:=cf3 BK205;go_wp2_with (first|(refine gR 39 (some 47) Tryd.func39 (impl_rulesOk.calls k3 _ _ l0_1 t208 _ ?side1 ?side2 A24.out) ?_;(case side1=>exact (zz77 HR0_1 HB));(case side2=>exact HC0_1.out);rintro w26 hb;replace BK205:=A_ (bB (zz23 BK205) hb);replace HB:=A_ (bS (zz24 HB GE205) hb);(try clear hb)))
          go_ret
          exact ⟨zz8,(zz24 HB GE205)⟩
def impl_NoticeOk.l0:Nat→Int→List (S40)→Int→Int→Option (Bool)
 | 0,_,_,_,_=>none
 | k+1,x3,x6,x7,x8=>if x8 < x7 then (if 0≤x8 then (if x8 < (x6.length:Int) then ((impl_groupOk.f k ((rd_T40 x6 x8).f0) ((rd_T40 x6 x8).f1) ((rd_T40 x6 x8).f2)).bind fun t211=>(if t211=true then (impl_NoticeOk.l0 k (wrap64 (x3+(wrap64 ((wrap64 ((((rd_T40 x6 x8).f0).length:Int)+(((rd_T40 x6 x8).f1).length:Int)))+1)))) x6 x7 (wrap64 (x8+1))) else (some false))) else (none)) else (none)) else (some (decide (x3≤40)))
def impl_NoticeOk.f (k:Nat) (l0:List (S40)):Option (Bool):=impl_NoticeOk.l0 k 0 l0 (l0.length:Int) 0
theorem impl_NoticeOk.calls (k:Nat) (A0:Option Addr) (c0:Nat) (l0:List (S40)) (r:Bool) (w:World) (hr0:Kd.C k40 w A0 l0.length l0) (hc0:l0.length≤c0) (h:impl_NoticeOk.f k l0=some r) :
  Calls Tryd.prog 13 #[.slice A0 l0.length c0] w fun e w'=>e=.returned (.bool r)∧Below w.heap.size w w':=by
 have hu40:=Tryd.underlying40;have HR0:=A_ hr0;have HC0:=A_ hc0;clear hr0 hc0;have HB:=A_ (Below.refl w.heap.size w);unfold impl_NoticeOk.f at h
 have H:=h;clear h;have H':=A_ H;clear H;go_enter Tryd.func13,Tryd.ntmps13;go_wp2
 go_loopg [3,8] k (fun kq v3 v8 w'=>∃ (x3_1:Int) (x8_1:Int),v3=.int .i64 x3_1∧v8=.int .i64 x8_1∧Aside0 (impl_NoticeOk.l0 kq x3_1 l0 (l0.length:Int) x8_1=some r)∧Aside0 (kq≤k)∧Aside0 (Below w.heap.size w w'))
 case atStart=>exact ⟨(0),(0),zz2,zz2,H',⟨Nat.le_refl _⟩,⟨(zz12 HB)⟩⟩
 case round=>
  clear H';obtain ⟨x3_1,x8_1,rfl,rfl,HA,HK1,HB⟩:=hrel;cases gk with
  | zero=>exact absurd HA.out (by simp [impl_NoticeOk.l0])
  | succ k1=>
   obtain ⟨H⟩:=HA;simp only [impl_NoticeOk.l0] at H
   replace H:=iteEd H;rcases H with ⟨c2b0,H⟩|⟨c2b0,H⟩
   ·replace H:=iteNd H
    obtain ⟨c3b0,H⟩:=H;replace H:=iteNd H;obtain ⟨c4b0,H⟩:=H;replace H:=bindA H;obtain ⟨t211,A5,H⟩:=H;have HF6:=A_ H;clear H;obtain ⟨⟨ad209,A209_0,c209_0,A209_1,c209_1,e209,hx209_0,hx209_1,hx209_2,hl209_0,hi209_0,hl209_1,hi209_1⟩,p209,q209⟩:=atB (at_T40 HR0.out x8_1);cases e209
    obtain ⟨hx209_0,hx209_1,hx209_2⟩:=cb3 HB hx209_0 hx209_1 hx209_2;have HR209_0:=A_ hi209_0;have HC209_0:=A_ hl209_0;clear hi209_0 hl209_0;have HR209_1:=A_ hi209_1;have HC209_1:=A_ hl209_1;clear hi209_1 hl209_1;go_upto_if 14 with (first|(refine boxF 5 #[.slice none 0 0,.slice none 0 0,.int .i64 0] 40 ?_;intro gb210 hg w7 BK210 hb;have GE210:=geB hg (zz12 HB);replace HB:=A_ (bS (zz12 HB) hb);clear hb hg;obtain ⟨_,_,_,_,_,_⟩:=cf3 BK210)|(refine gR 28 (some 13) Tryd.func28 (impl_groupOk.calls k1 _ _ ((rd_T40 l0 x8_1).f0) _ _ ((rd_T40 l0 x8_1).f1) ((rd_T40 l0 x8_1).f2) t211 _ ?side1 ?side2 ?side3 ?side4 A5.out) ?_;(case side1=>exact Kd.C_below HR209_0.out (zz24 HB GE210));(case side2=>exact HC209_0.out);(case side3=>exact Kd.C_below HR209_1.out (zz24 HB GE210));(case side4=>exact HC209_1.out);rintro w9 hb;replace BK210:=A_ (bB (g:=gb210) (o:=.cells #[.slice A209_0 ((rd_T40 l0 x8_1).f0).length c209_0,.slice A209_1 ((rd_T40 l0 x8_1).f1).length c209_1,.int .i64 ((rd_T40 l0 x8_1).f2)] 40 (0,0)) (zz39 BK210) hb);replace HB:=A_ (bS (zz24 HB GE210) hb);(try clear hb)))
    obtain ⟨H⟩:=HF6;replace H:=iteB H;rcases H with ⟨rfl,H⟩|⟨rfl,H⟩
    ·have H':=A_ H
     clear H;obtain ⟨_,_,_,_,_,_⟩:=cf3 BK210;go_wp2
     go_roundg k1
     case measure=>have:=HK1.out;omega
     case rel=>exact ⟨(wrap64 (x3_1+(wrap64 ((wrap64 ((((rd_T40 l0 x8_1).f0).length:Int)+(((rd_T40 l0 x8_1).f1).length:Int)))+1)))),(wrap64 (x8_1+1)),zz2,zz2,H',⟨(zz18 HK1)⟩,⟨(zz24 HB GE210)⟩⟩
    ·obtain rfl:=sI H
     go_wp2
     go_ret
     exact ⟨zz8,(zz24 HB GE210)⟩
   ·obtain rfl:=sI H
    go_wp2
    go_ret
    exact ⟨zz8,(zz12 HB)⟩
end Go.Proofs.YtfpngfkepeoboaaDoor.P
end
section
namespace Go.Proofs.YtfpngfkepeoboaaDoor.P
open Go.RowKit Go.Proofs.YtfpngfkepeoboaaDoorW.PrintWords Go.Proofs.YtfpngfkepeoboaaDoorW.PrintLast Go.Proofs.YtfpngfkepeoboaaDoorW.PrintMore
set_option linter.unusedVariables false
abbrev Gp:=S40
abbrev kGp:Kd Gp:=k40
def lastG (l:List Gp):Gp:=l.getD (l.length - 1) z40
structure Lines (w0 w wc:World) (base:Nat) (ok:Nat→Prop) (u:Value) (l:List Gp):Prop where
 S:Kd.S kGp 40 wc base ok u l
 B:Below base w0 wc
 K:Kept w wc ok
 le:base≤wc.heap.size
theorem Lines.drewN {w0 w wc:World} {base:Nat} {ok:Nat→Prop} {u:Value} {l:List Gp} (h:Lines w0 w wc base ok u l) (m:Nat):Lines w0 w (wc.drewN m) base ok u l:=
 ⟨Kd.S_drewN h.S m,pw_below_drewN h.B m,h.K.drewN m,h.le⟩
theorem Lines.drawn {w0 w wc wd:World} {base:Nat} {ok:Nat→Prop} {u:Value} {l:List Gp} (h:Lines w0 w wc base ok u l) (hd:Drawn0 wc wd):Lines w0 w wd base ok u l:=by
 obtain ⟨m,rfl⟩:=hd
 exact h.drewN m
theorem Lines.below {w0 w wc wd:World} {base:Nat} {ok:Nat→Prop} {u:Value} {l:List Gp} (h:Lines w0 w wc base ok u l) (hb:Below wc.heap.size wc wd):Lines w0 w wd base ok u l:=
 ⟨Kd.S_below h.S hb,h.B.trans (hb.mono h.le),h.K.below hb,Nat.le_trans h.le hb.size⟩
theorem Lines.last {w0 w wc:World} {base:Nat} {ok:Nat→Prop} {u:Value} {l:List Gp} (h:Lines w0 w wc base ok u l) (hp:0 < l.length) :
  ∃ g cap v0 v1 oki,u=.slice (some ⟨g,0,none⟩) l.length cap∧Kd.string.R 9 wc base oki v0 (lastG l).f0∧k51.R 51 wc base oki v1 (lastG l).f1 ∧
   (wc.cell? ⟨g,(l.length - 1) * 3,none⟩=some v0∧wc.cell? ⟨g,(l.length - 1) * 3+1,none⟩=some v1∧wc.cell? ⟨g,(l.length - 1) * 3+2,none⟩=some (.int .i64 (lastG l).f2))∧(∀ j,wc.frozen? ⟨g,(l.length - 1) * 3+j,none⟩=false)∧(∀ k,oki k→ok k∧k≠g) ∧
   Kd.H kGp 40 wc base ok (.slice (some ⟨g,0,none⟩) l.length cap) l ((l.length - 1:Nat):Int) oki [v0,v1,.int .i64 (lastG l).f2]:=by
 obtain ⟨g,cap,rfl,_,_,_⟩:=Kd.S_form h.S hp
 obtain ⟨oki,c,hcl,hM,hcc,hfr,hoki,hH⟩:=Kd.S_elem h.S z40 ((l.length - 1:Nat):Int) (by omega) (by omega)
 obtain ⟨v0,v1,rfl,g0,g1⟩:=k40_openM hM
 have e:(((l.length - 1:Nat):Int)).toNat=l.length - 1:=by omega
 rw [e] at hcc hfr g0 g1
 exact ⟨g,cap,v0,v1,oki,rfl,g0,g1,⟨hcc 0 _ rfl,hcc 1 _ rfl,hcc 2 _ rfl⟩,hfr,hoki,hH⟩
theorem infoGp:(Tryd.prog.info? 40).map (fun i=>(i.zero,i.size,i.bytes))=some (some (.agg #[.slice none 0 0,.slice none 0 0,.int .i64 0]),3,56):=by kernel_rfl
theorem infoRu:(Tryd.prog.info? 51).map (fun i=>(i.zero,i.size,i.bytes))=some (some (.agg #[.bool false,.string ⟨#[]⟩]),2,24):=by kernel_rfl
theorem nxt (i:Nat) (h:i < 1000000000):(Value.int .i64 (wrap64 ((i:Int)+1)))=.int .i64 ((i+1:Nat):Int):=by
 congr 1
 show wrap64 _=_
 unfold wrap64
 omega
theorem string_at {W:World} {base:Nat} {ok:Nat→Prop} {v:Value} {xs:List ByteArray} (h:Kd.string.R 9 W base ok v xs) {i:Nat} (hi:i < xs.length) :
  ∃ g cap,v=.slice (some ⟨g,0,none⟩) xs.length cap∧base≤g∧g < W.heap.size∧W.cell? ⟨g,i,none⟩=some (.string xs[i]):=by
 obtain ⟨g,cap,rfl,hb,hl,_⟩:=Kd.R_form h (by omega)
 obtain ⟨c,hcl,hM,hcc,_⟩:=Kd.R_elem h (ByteArray.empty) (i:Int) (by omega) (by omega)
 have e:(i:Int).toNat=i:=by omega
 rw [e] at hM hcc
 have hc:c=[.string xs[i]]:=by
  have:c=[.string (xs.getD i ByteArray.empty)]:=hM
  rw [this,List.getD_eq_getElem?_getD,List.getElem?_eq_getElem hi];rfl
 subst hc
 refine ⟨g,cap,rfl,hb,hl,?_⟩
 have:=hcc 0 _ rfl
 rwa [Nat.add_zero,show Kd.string.sz=1 from rfl,Nat.mul_one] at this
def strings_explode.f (a0:ByteArray) (a1:Int):Option (List ByteArray):=none
theorem strings_explode.calls (a0:ByteArray) (a1:Int) (r:List ByteArray) (w:World) (h:strings_explode.f a0 a1=some r) :
  Calls Tryd.prog 41 #[.string a0,.int .i64 a1] w fun e w'=>∃ v0_:Value,e=.returned (v0_)∧Kd.R Kd.string 9 w' w.heap.size (fun _=>True) v0_ r∧Below w.heap.size w w':=by
 cases h
end Go.Proofs.YtfpngfkepeoboaaDoor.P
end
section
namespace Go.Proofs.YtfpngfkepeoboaaDoor.P
open Go.RowKit Go.Proofs.YtfpngfkepeoboaaDoorW.PrintWords Go.Proofs.YtfpngfkepeoboaaDoorW.PrintLast Go.Proofs.YtfpngfkepeoboaaDoorW.PrintMore
attribute [local go_sem] max2_int min2_int max_two min_two max_three min_three max_four min_four
set_option linter.unusedVariables false
set_option linter.unusedSimpArgs false
set_option maxHeartbeats 8000000
set_option maxRecDepth 100000
attribute [local go_sem high] eqA51
def laws_lpRules.l0:Nat→List (S51)→List (S51)→Int→Option (Bool)
 | 0,_,_,_=>none
 | k+1,x0,x1,x5=>if x5 < (x0.length:Int) then (if 0≤x5 then (if x5 < (x1.length:Int) then (if (!(((rd_T51 x0 x5).f0) == ((rd_T51 x1 x5).f0)) || (!((((rd_T51 x0 x5).f1).toList) == (((rd_T51 x1 x5).f1).toList))))=true then (some false) else (laws_lpRules.l0 k x0 x1 (wrap64 (x5+1)))) else (none)) else (none)) else (some true)
def laws_lpRules.f (k:Nat) (l0:List (S51)) (l1:List (S51)):Option (Bool):=if (l0.length:Int)=(l1.length:Int) then (laws_lpRules.l0 k l0 l1 0) else (some false)
theorem laws_lpRules.calls (k:Nat) (A0:Option Addr) (c0:Nat) (l0:List (S51)) (A1:Option Addr) (c1:Nat) (l1:List (S51)) (r:Bool) (w:World) (hr0:Kd.C k51 w A0 l0.length l0) (hc0:l0.length≤c0) (hr1:Kd.C k51 w A1 l1.length l1) (hc1:l1.length≤c1) (h:laws_lpRules.f k l0 l1=some r) :
  Calls Tryd.prog 32 #[.slice A0 l0.length c0,.slice A1 l1.length c1] w fun e w'=>e=.returned (.bool r)∧Drawn0 w w':=by
 have hu51:=Tryd.underlying51;have HR0:=A_ hr0;have HC0:=A_ hc0;clear hr0 hc0;have HR1:=A_ hr1;have HC1:=A_ hc1;clear hr1 hc1;unfold laws_lpRules.f at h
 have H:=h;clear h;replace H:=iteE H;rcases H with ⟨c3,H⟩|⟨c3,H⟩
 ·obtain ⟨c3b0,c3b1⟩:=eqT c3
  have c3b2:(l0.length == l1.length)=true:=by first|simpa using c3|(simp at c3 ⊢;omega)
  clear c3;have H':=A_ H;clear H;go_enter Tryd.func32,Tryd.ntmps32;go_wp2
  repeat (go_quiet (fail);try go_wp2)
  go_loopg [5] k (fun kq v5 w'=>∃ (x5_1:Int),v5=.int .i64 x5_1∧Aside0 (laws_lpRules.l0 kq l0 l1 x5_1=some r)∧Aside0 (kq≤k)∧Drawn0 w w')
  case atStart=>exact ⟨(0),zz2,H',⟨Nat.le_refl _⟩,zz16⟩
  case round=>
   clear H';obtain ⟨x5_1,rfl,HA,HK1,⟨m1,rfl⟩⟩:=hrel;cases gk with
   | zero=>exact absurd HA.out (by simp [laws_lpRules.l0])
   | succ k1=>
    obtain ⟨H⟩:=HA;simp only [laws_lpRules.l0] at H
    replace H:=iteEd H;rcases H with ⟨c4b0,H⟩|⟨c4b0,H⟩
    ·replace H:=iteNd H
     obtain ⟨c5b0,H⟩:=H;replace H:=iteNd H;obtain ⟨c6b0,H⟩:=H;replace H:=iteE H;rcases H with ⟨c7,H⟩|⟨c7,H⟩
     ·have c7b0:(!(((rd_T51 l0 x5_1).f0) == ((rd_T51 l1 x5_1).f0)) || (!((((rd_T51 l0 x5_1).f1).toList) == (((rd_T51 l1 x5_1).f1).toList))))=true:=c7
      clear c7;obtain rfl:=sI H;obtain ⟨⟨ad260,e260,hx260_0,hx260_1⟩,p260,q260⟩:=atB (at_T51 HR0.out x5_1);cases e260
      obtain ⟨⟨ad261,e261,hx261_0,hx261_1⟩,p261,q261⟩:=atB (at_T51 HR1.out x5_1);cases e261
      go_wp2
      repeat (go_quiet (fail);try go_wp2)
      go_ret
      exact ⟨zz2,zz16⟩
     ·have c7b0:(!(((rd_T51 l0 x5_1).f0) == ((rd_T51 l1 x5_1).f0)) || (!((((rd_T51 l0 x5_1).f1).toList) == (((rd_T51 l1 x5_1).f1).toList))))=false:=by simpa using c7
      clear c7;have H':=A_ H;clear H;obtain ⟨⟨ad260,e260,hx260_0,hx260_1⟩,p260,q260⟩:=atB (at_T51 HR0.out x5_1);cases e260
      obtain ⟨⟨ad261,e261,hx261_0,hx261_1⟩,p261,q261⟩:=atB (at_T51 HR1.out x5_1);cases e261
      go_wp2
      repeat (go_quiet (fail);try go_wp2)
      go_roundg k1
      case measure=>have:=HK1.out;omega
      case rel=>exact ⟨(wrap64 (x5_1+1)),zz2,H',⟨(zz18 HK1)⟩,zz16⟩
    ·obtain rfl:=sI H
     go_wp2
     repeat (go_quiet (fail);try go_wp2)
     go_ret
     exact ⟨zz2,zz16⟩
 ·obtain ⟨c3b0,c3b1⟩:=eqF c3
  have c3b2:(l0.length == l1.length)=false:=by first|simpa using c3|(simp at c3 ⊢;omega)
  obtain rfl:=sI H;go_enter Tryd.func32,Tryd.ntmps32;go_wp2
  repeat (go_quiet (fail);try go_wp2)
  go_ret
  exact ⟨zz2,zz16⟩
end Go.Proofs.YtfpngfkepeoboaaDoor.P
end
section
namespace Go.Proofs.YtfpngfkepeoboaaDoor.P
open Go.RowKit Go.Proofs.YtfpngfkepeoboaaDoorW.PrintWords Go.Proofs.YtfpngfkepeoboaaDoorW.PrintLast Go.Proofs.YtfpngfkepeoboaaDoorW.PrintMore
attribute [local go_sem] max2_int min2_int max_two min_two max_three min_three max_four min_four
set_option linter.unusedVariables false
set_option linter.unusedSimpArgs false
set_option maxHeartbeats 8000000
set_option maxRecDepth 100000
def laws_lpGroup.f (k:Nat) (l0_0:List ByteArray) (l0_1:List (S51)) (a0_2:Int) (l1_0:List ByteArray) (l1_1:List (S51)) (a1_2:Int):Option (Bool):=if a0_2=a1_2 then ((laws_lpTexts.f k l0_0 l1_0).bind fun t264=>(if t264=true then ((laws_lpRules.f k l0_1 l1_1).bind fun t265=>(some t265)) else (some false))) else (some false)
theorem laws_lpGroup.calls (k:Nat) (A0_0:Option Addr) (c0_0:Nat) (l0_0:List ByteArray) (A0_1:Option Addr) (c0_1:Nat) (l0_1:List (S51)) (a0_2:Int) (A1_0:Option Addr) (c1_0:Nat) (l1_0:List ByteArray) (A1_1:Option Addr) (c1_1:Nat) (l1_1:List (S51)) (a1_2:Int) (r:Bool) (w:World) (hr0_0:Kd.C Kd.string w A0_0 l0_0.length l0_0) (hc0_0:l0_0.length≤c0_0) (hr0_1:Kd.C k51 w A0_1 l0_1.length l0_1) (hc0_1:l0_1.length≤c0_1) (hr1_0:Kd.C Kd.string w A1_0 l1_0.length l1_0) (hc1_0:l1_0.length≤c1_0) (hr1_1:Kd.C k51 w A1_1 l1_1.length l1_1) (hc1_1:l1_1.length≤c1_1) (h:laws_lpGroup.f k l0_0 l0_1 a0_2 l1_0 l1_1 a1_2=some r) :
  Calls Tryd.prog 21 #[.agg #[.slice A0_0 l0_0.length c0_0,.slice A0_1 l0_1.length c0_1,.int .i64 a0_2],.agg #[.slice A1_0 l1_0.length c1_0,.slice A1_1 l1_1.length c1_1,.int .i64 a1_2]] w fun e w'=>e=.returned (.bool r)∧Below w.heap.size w w':=by
 have hu40:=Tryd.underlying40;have HR0_0:=A_ hr0_0;have HC0_0:=A_ hc0_0;clear hr0_0 hc0_0;have HR0_1:=A_ hr0_1;have HC0_1:=A_ hc0_1;clear hr0_1 hc0_1;have HR1_0:=A_ hr1_0;have HC1_0:=A_ hc1_0;clear hr1_0 hc1_0;have HR1_1:=A_ hr1_1;have HC1_1:=A_ hc1_1;clear hr1_1 hc1_1;have HB:=A_ (Below.refl w.heap.size w);unfold laws_lpGroup.f at h
 have H:=h;clear h;have HF3:=A_ H;clear H;go_enter Tryd.func21,Tryd.ntmps21;go_wp2_with (first|(refine boxF 2 #[.slice A0_0 l0_0.length c0_0,.slice A0_1 l0_1.length c0_1,.int .i64 a0_2] 40 ?_;intro gb262 hg w4 BK262 hb;have GE262:=geB hg (zz12 HB);replace HB:=A_ (bS (zz12 HB) hb);clear hb hg)|(refine boxF 3 #[.slice A1_0 l1_0.length c1_0,.slice A1_1 l1_1.length c1_1,.int .i64 a1_2] 40 ?_;intro gb263 hg w5 BK263 hb;have GE263:=geB hg (zz24 HB GE262);replace HB:=A_ (bS (zz24 HB GE262) hb);have NB262_263:=A_ ((by rw [hg];exact Nat.ne_of_lt (blk_lt (zz23 BK262)):gb262≠gb263));have NB263_262:=A_ ((by rw [hg];exact Nat.ne_of_gt (blk_lt (zz23 BK262)):gb263≠gb262));replace BK262:=A_ (bB (zz23 BK262) hb);clear hb hg;have hnb6:=NB262_263.out;have hnc6:=NB263_262.out;obtain ⟨_,_,_,_,_,_⟩:=cf3 BK262;obtain ⟨_,_,_,_,_,_⟩:=cf3 BK263)|((with_reducible refine atG ?_ ?_ fun K_ hK_=>?_);rfl;exact undecG)|((with_reducible refine atI ?_ fun K_ hK_=>?_);exact undecI))
 refine unG hK_ ?_;clear hK_ K_;obtain ⟨H⟩:=HF3;replace H:=iteE H;rcases H with ⟨c9,H⟩|⟨c9,H⟩
 ·obtain ⟨c9b0,c9b1⟩:=eqT c9
  (first|refine iteT ?_|refine iteF ?_|skip)
  clear c9;(first|rw [c9b0]|(simp only [i64_w,i32_w];rw [c9b0])|skip)
  replace H:=bindA H;obtain ⟨t264,A10,H⟩:=H;have HF11:=A_ H;clear H;have hnb12:=NB262_263.out;have hnc12:=NB263_262.out;obtain ⟨_,_,_,_,_,_⟩:=cf3 BK262;obtain ⟨_,_,_,_,_,_⟩:=cf3 BK263;(try ((with_reducible refine upS ?_);go_simp))
  go_wp2_with (first|(go_at_call 31;(with_reducible refine (laws_lpTexts.calls k _ _ l0_0 _ _ l1_0 t264 _ ?side1 ?side2 ?side3 ?side4 A10.out).mono ?_);(case side1=>exact (zz77 HR0_0 HB));(case side2=>exact HC0_0.out);(case side3=>exact (zz77 HR1_0 HB));(case side4=>exact HC1_0.out);rintro e w' ⟨rfl,⟨nd,rfl⟩⟩)|((with_reducible refine atG ?_ ?_ fun K_ hK_=>?_);rfl;exact undecG)|((with_reducible refine atI ?_ fun K_ hK_=>?_);exact undecI))
  refine unG hK_ ?_;clear hK_ K_;obtain ⟨H⟩:=HF11;replace H:=iteB H;rcases H with ⟨rfl,H⟩|⟨rfl,H⟩
  ·(first|refine iteT ?_|refine iteF ?_|skip)
   replace H:=bindA H;obtain ⟨t265,A16,H⟩:=H;obtain rfl:=sI H;have hnb17:=NB262_263.out;have hnc17:=NB263_262.out;obtain ⟨_,_,_,_,_,_⟩:=cf3 BK262;obtain ⟨_,_,_,_,_,_⟩:=cf3 BK263;(try ((with_reducible refine upS ?_);go_simp))
   go_wp2_with (first|(go_at_call 32;(with_reducible refine (laws_lpRules.calls k _ _ l0_1 _ _ l1_1 t265 _ ?side1 ?side2 ?side3 ?side4 A16.out).mono ?_);(case side1=>exact (zz77 HR0_1 HB));(case side2=>exact HC0_1.out);(case side3=>exact (zz77 HR1_1 HB));(case side4=>exact HC1_1.out);rintro e w' ⟨rfl,⟨nd,rfl⟩⟩))
   go_ret
   exact ⟨zz8,(zz27 HB GE262 GE263)⟩
  ·(first|refine iteT ?_|refine iteF ?_|skip)
   obtain rfl:=sI H;(try ((with_reducible refine upS ?_);go_simp))
   go_wp2
   go_ret
   exact ⟨zz8,(zz27 HB GE262 GE263)⟩
 ·obtain ⟨c9b0,c9b1⟩:=eqF c9
  (first|refine iteT ?_|refine iteF ?_|skip)
  (first|rw [c9b0]|(simp only [i64_w,i32_w];rw [c9b0])|skip)
  obtain rfl:=sI H;(try ((with_reducible refine upS ?_);go_simp))
  go_wp2
  go_ret
  exact ⟨zz8,(zz27 HB GE262 GE263)⟩
end Go.Proofs.YtfpngfkepeoboaaDoor.P
end
