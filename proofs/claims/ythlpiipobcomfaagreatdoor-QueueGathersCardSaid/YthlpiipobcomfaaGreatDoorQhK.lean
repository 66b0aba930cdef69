/- The queue's ways of a write: contracts. -/
/- The queue's ways of a write: contracts. -/
import Derived.Test.YthlpiipobcomfaaGreatDoorQhS
import Derived.Test.YthlpiipobcomfaaGreatDoorQxSay
set_option linter.all false
set_option linter.unusedSectionVars false
set_option linter.unusedVariables false
set_option linter.unusedSimpArgs false
namespace Go.Proofs.YthlpiipobcomfaaGreatDoor
open Go Go.Ab Go.Proofs Go.RowKit
set_option maxRecDepth 1000000
/-! ### Small facts -/
theorem wrI (a : Int) (h0 : -9223372036854775808 ≤ a) (h1 : a < 9223372036854775808) : IntKind.i64.wrap a = a := IntWalk.i64_in _ (by omega)
theorem wrU (a : Int) (h0 : 0 ≤ a) (h1 : a < 18446744073709551616) : IntKind.u64.wrap a = a := by rw [IntKind.wrap_u64]; omega
theorem wrU32 (a : Int) (h0 : 0 ≤ a) (h1 : a < 4294967296) : IntKind.u32.wrap a = a := by simp [IntKind.wrap, IntKind.bits, IntKind.signed]; omega
theorem wrU8 (a : Int) (h0 : 0 ≤ a) (h1 : a < 256) : IntKind.u8.wrap a = a := by simp [IntKind.wrap, IntKind.bits, IntKind.signed]; omega
theorem or0 (a : Int) (h0 : 0 ≤ a) (h1 : a < 18446744073709551616) : orU 0 a = a := orU_0 a h0 h1
theorem or0r (a : Int) (h0 : 0 ≤ a) (h1 : a < 18446744073709551616) : orU a 0 = a := by
  obtain ⟨a, rfl⟩ := Int.eq_ofNat_of_zero_le h0
  unfold orU
  show IntKind.u64.wrap ((BitVec.ofInt 64 (a : Int) ||| BitVec.ofInt 64 0).toNat : Int) = _
  rw [BitVec.toNat_or, ofInt_toNat _ (by omega) (by omega)]
  simp
  exact wrU _ (by omega) (by omega)
theorem or8 (a c : Int) (h0 : 0 ≤ a) (h1 : a < 256) (hc : 0 ≤ c) (hd : c < 256) : orU a (c * 256) = a + c * 256 := orU_sum a c 8 h0 (by simpa using h1) hc (by omega)
theorem or16 (a c : Int) (h0 : 0 ≤ a) (h1 : a < 65536) (hc : 0 ≤ c) (hd : c < 256) : orU a (c * 65536) = a + c * 65536 := orU_sum a c 16 h0 (by simpa using h1) hc (by omega)
theorem or24 (a c : Int) (h0 : 0 ≤ a) (h1 : a < 16777216) (hc : 0 ≤ c) (hd : c < 256) : orU a (c * 16777216) = a + c * 16777216 := orU_sum a c 24 h0 (by simpa using h1) hc (by omega)
theorem and_mask (a : Int) (h0 : 0 ≤ a) (h1 : a < 65536) : opV .and .u32 a 65535 = a := by
  obtain ⟨a, rfl⟩ := Int.eq_ofNat_of_zero_le h0
  show IntKind.u32.wrap ((BitVec.ofInt 32 (a : Int) &&& BitVec.ofInt 32 65535).toNat : Int) = _
  rw [BitVec.toNat_and]
  have e1 : (BitVec.ofInt 32 (a : Int)).toNat = a := by rw [BitVec.toNat_ofInt]; omega
  have e2 : (BitVec.ofInt 32 65535).toNat = 2 ^ 16 - 1 := by decide
  rw [e1, e2, Nat.and_two_pow_sub_one_eq_mod, Nat.mod_eq_of_lt (by omega)]
  exact wrU32 _ (by omega) (by omega)
theorem turns_self {I : Unk} {PL : List (Value × Value)} (h : PL.all (fun p => eqw p.1 p.2) = true) : Turns I I PL := fun p hp σ σ' v hv => by
  obtain ⟨e, hs⟩ := eqw_eq (List.all_eq_true.1 h p hp)
  rw [← e]
  letI : Unk := I
  letI : Kn := knNone
  haveI : KnOk := knNone_ok
  exact hs.move hv
theorem byteAt_ap (a b : ByteArray) (i : Nat) (h : i < a.size) : byteAt (a ++ b) i = byteAt a i := by
  unfold byteAt
  rw [dif_pos h, dif_pos (by rw [ByteArray.size_append]; omega)]
  congr 1
  rw [ByteArray.getElem_append_left h]
theorem byteAt_lit (l : List UInt8) (i : Nat) (h : i < l.length) : byteAt ⟨⟨l⟩⟩ i = (l[i].toNat : Int) := by
  unfold byteAt
  rw [dif_pos (show i < (⟨⟨l⟩⟩ : ByteArray).size from h)]
  rfl
theorem u8n (E : Int) (h0 : 0 ≤ E) (h : E < 256) : ((UInt8.ofNat E.toNat).toNat : Int) = E := by
  rw [UInt8.toNat_ofNat']
  omega
theorem ext_ap_l (a b : ByteArray) (i : Nat) (h : i = a.size) : (a ++ b).extract 0 i = a := by
  subst h
  apply ByteArray.ext
  simp
theorem ext_ap_r (a b : ByteArray) (i j : Nat) (h : i = a.size) (hj : j = a.size + b.size) : (a ++ b).extract i j = b := by
  subst h; subst hj
  apply ByteArray.ext
  rw [ByteArray.data_extract, ByteArray.data_append]
  apply Array.ext'
  simp [Array.toList_extract, List.extract_eq_take_drop]
  rw [show a.size = a.data.toList.length from rfl, List.drop_length, List.take_nil, List.nil_append]
  exact List.take_of_length_le (Nat.le_refl _)

/-- The message of a write whose data are to be asked for. -/
def Wr (k : Nat) : ByteArray := ⟨#[4, 0, 72, 0, 72, 0, 0, 0, 1, 64, 9, 0, 1, 0, 0, 0, 0, 0, 0, 0, 0, 0, 0, 0, 0, 0, 0, 0, 0, 0, 0, 0, 0, 0, 0, 0, 0, 0, 0, 0, 0, (UInt8.ofNat (2 * (k : Int)).toNat), 0, 0, 0, 0, 0, 90, 0, 0, 0, 0, 0, 0, 0, 0, (UInt8.ofNat ((k : Int) - 1).toNat), 0, 0, 0, 0, 0, 0, 0, 0, 0, 0, 0, 0, 0, 0, 0]⟩
def WrH (k : Nat) (e0 e1 : Int) : ByteArray := ⟨#[4, 0, 72, 72, (UInt8.ofNat e0.toNat), (UInt8.ofNat e1.toNat), 0, 0, 1, 64, 9, 0, 1, 0, 0, 0, 0, 0, 0, 0, 0, 0, 0, 0, 0, 0, 0, 0, 0, 0, 0, 0, 0, 0, 0, 0, 0, 0, 0, 0, 0, (UInt8.ofNat (2 * (k : Int)).toNat), 0, 0, 0, 0, 0, 1, 0, 0, 0, 0, 0, 0, 0, 0, (UInt8.ofNat ((k : Int) - 1).toNat), 0, 0, 0, 0, 0, 0, 0, 0, 0, 0, 0, 0, 0, 0, 0]⟩
def Hd64 (k : Nat) : ByteArray := ⟨#[1, 64, 9, 0, 1, 0, 0, 0, 0, 0, 0, 0, 0, 0, 0, 0, 0, 0, 0, 0, 0, 0, 0, 0, 0, 0, 0, 0, 0, 0, 0, 0, 0, (UInt8.ofNat (2 * (k : Int)).toNat), 0, 0, 0, 0, 0, 1, 0, 0, 0, 0, 0, 0, 0, 0, (UInt8.ofNat ((k : Int) - 1).toNat), 0, 0, 0, 0, 0, 0, 0, 0, 0, 0, 0, 0, 0, 0, 0]⟩

def rope90 : Nat := 24730920592007769694306243477460589539834477968017895593275438119849911195751788246080734508944249271019491082607025336521324375395200531403437822513464526079635958088995826032752670969864478281178746508177122868436721900738598039659945753140463554177018963794605126328813325141478271217471932077127575390924891410573639155225992526904547878308175021613843510316416666522840112861104532561526650668270415221362983081796692790491445014297304363851368991860373627281425704932802250410484789564588382594286259147936034336132707491800403688410002162946825961970620426132062870671082468763042074140815680871794682610051659764059920352821906612928051051643682178947309905781596361897011758073207101612548872448711763187956855823767112129670861263642897501281790511939303596045774948761154886980351652884956635224502935314578337148812259521311624408408458043652223033017636588608513478163170074079685980595956092568567707677252432540706567195305523498622877731663185623426783189028986181520672841246775224276084904794420126606873447976294493850354842585536686488536639992495180307593378060951881549251239198484820754211968763690975651721296438436554029231286129360841872865817244751040491724082393060568462938851450834983895372414761860284273700923428889888596392277301176140631088093531269310539324314853681684187184329025082533443234815265198073361562286048406197428444406063637238684493614271860452160597120075572999633158238453588780784511880190736002138838572732014017139227855922551619282349740165591094488469699344064102976213642780010598719716951144925468238224736584367437519205886334875805193109945369023786048712811494169335719663690744464899128226782632451332421153470917700635524600953832340400500972749120493138490667083553670374392113579069050299205954306847963109121078246639510377482773316952352796020681422552948921378860338991366936329305185401245333135087809628199150879611146557608085487914884843205977619123949103652793139194245360637494537071776323668744804047975828527792603209704429902050904818550675469400566022704133370566932695761411170038733054216439790819798978504717878475216783238606743963203177150783685215829738309580374168422132768414040546446114338054609576622810315316516413612608661335416882823770727069916772601916727334008405779011553258511374309165928773546810819976586816919699457
def Blk (k : Nat) : ByteArray := ⟨#[1, 64, 9, 0, 1, 0, 0, 0, 0, 0, 0, 0, 0, 0, 0, 0, 0, 0, 0, 0, 0, 0, 0, 0, 0, 0, 0, 0, 0, 0, 0, 0, 0, (UInt8.ofNat (2 * (k : Int)).toNat), 0, 0, 0, 0, 0, 90, 0, 0, 0, 0, 0, 0, 0, 0, (UInt8.ofNat ((k : Int) - 1).toNat), 0, 0, 0, 0, 0, 0, 0, 0, 0, 0, 0, 0, 0, 0, 0]⟩
def rope1 : Nat := 24730920592007769694306243477460589539834477968017895593275438119849911195751788246080734508944249271019491082607025336521324375395200531403437822513464526079635958088995826032752670969864478281178746508177122868436721900738598039659945753140463554177018963794605126328813325141478271217471932077127575390924891410573639155225992526904547878308175021613843510316416666522840112861104532561526650668270415221362983081796692790491445014059312039869801058291946815378543937431737873376668027782834061955292122829085292601676622968293328877600224172497074109763358015517332924195911159987611557002267834815114964945352855758716526770068300151547677705500109960821781264230333920054236619080298064986853741295101930779624976474136934247040365326071393097506432845465959091098309302111940417277896401074585570126310637700905261336024083267468744315434797279352668844386054896780821997473489797803015344868010783075158592412377701224457613068638683757920259974285095831858871331039836822055050981420914690315605096701720619811528009317784758546202975942035131592662104087127366860069660664276080292911042050005128509206769090741631620646798098054973089824167303961570371187806794174133871256817040897389934142778994391292878551154434084094768650923075763151841048908267495491041662211592140449596622962970264453519278589426232206030587445716984666281721519617333163954602323290223554662323598592051905284276245543772069052976422229142974926977160984917194748661408660342095801320017852231332204478247751587684001755105783986965157122513684900365330274582854574562657627412710570812831912871196186839556884798835435696061494255089504906309456226405394867872932650454683395775621387480906935827965077281854853994339253448251571835301546718139808296977439738816477587789649678991445221718305101782044338040711723837385663732835345444271279534118290871310248367045890852171231542871843059080791358189585988922222680547398070537489589224238480437118129683730290230703385944706986075071116318076350588364854010959851407980966521721005358669641367531782253160955478431593692225931788648302947612887239780083284604953005258487589728463756104099106710804913748270015782334610234594093607165583438080552075332195653487064354818545959459065202006474834478465533934734665401315486304068403425044885535812584550958082147305193987899393
end Go.Proofs.YthlpiipobcomfaaGreatDoor
namespace Go.Proofs.YthlpiipobcomfaaGreatDoor
open Go Go.Ab Go.Proofs Go.RowKit
set_option maxRecDepth 1000000
set_option maxHeartbeats 4000000 in
theorem write_no (k : Nat) (k1 : 1 ≤ k) (k2 : k ≤ 64) (d : ByteArray) {w : World} (hL : Laid w) : Calls Tryz.prog 14 #[.int .i64 9, .int .i64 (k : Int), .bool false, .string d] w fun e w' => e = .returned (.string (Wr k)) ∧ Below w.heap.size w w' := by
  apply wr k d
  all_goals first | exact hL | omega | (refine wrU _ ?_ ?_ <;> omega) | (refine wrI _ ?_ ?_ <;> omega)
set_option maxHeartbeats 4000000 in
theorem write_in (k : Nat) (k1 : 1 ≤ k) (k2 : k ≤ 8) (d : ByteArray) (hd : d.size = 512 * k) {w : World} (hL : Laid w) : Calls Tryz.prog 14 #[.int .i64 9, .int .i64 (k : Int), .bool true, .string d] w fun e w' => e = .returned (.string (WrH k ((72 + 512 * (k : Int)) % 256) ((72 + 512 * (k : Int)) / 256) ++ d)) ∧ Below w.heap.size w w' := by
  have hs : (WrH k ((72 + 512 * (k : Int)) % 256) ((72 + 512 * (k : Int)) / 256)).size = 72 := rfl
  apply wrw k d
  all_goals first | exact hL | omega | (refine wrU _ ?_ ?_ <;> omega) | (refine wrI _ ?_ ?_ <;> omega) | (show (_ : ByteArray).size + d.size < _; (first | (show 72 + d.size < _; omega) | (show 8 + d.size < _; omega) | (show 64 + d.size < _; omega)))
/-- A message with data that were asked for. -/
def Md (fl : UInt8) (e0 e1 : Int) (hd da : ByteArray) : ByteArray := (⟨#[6, fl, 24, 24, UInt8.ofNat e0.toNat, UInt8.ofNat e1.toNat, 0, 0]⟩ ++ hd) ++ da
def MdN (fl : UInt8) (n : Nat) (hd da : ByteArray) : ByteArray := Md fl ((24 + (n : Int)) % 256) ((24 + (n : Int)) / 256) hd da
set_option maxHeartbeats 4000000 in
theorem put_mid (hd da : ByteArray) (n : Nat) (hh : hd.size = 16) (hn : da.size = n) (n1 : 1 ≤ n) (n2 : n ≤ 16384) {w : World} (hL : Laid w) : Calls Tryz.prog 17 #[.agg #[.int .i64 6, .int .i64 0, .string hd, .string da], .bool false, .bool false] w fun e w' => e = .returned (.tuple #[.string (MdN 0 n hd da), .int .i64 0]) ∧ Below w.heap.size w w' := by
  apply pm hd da n ((24 + (n : Int)) % 256) ((24 + (n : Int)) / 256) ((24 + (n : Int)) / 256)
  all_goals first | exact hL | omega | (refine wrU _ ?_ ?_ <;> omega) | (refine wrI _ ?_ ?_ <;> omega) | (show (_ : ByteArray).size + _ < _; (first | (show 8 + hd.size < _; omega) | (rw [ByteArray.size_append]; show 8 + hd.size + da.size < _; omega)))
set_option maxHeartbeats 4000000 in
theorem put_last (hd da : ByteArray) (n : Nat) (hh : hd.size = 16) (hn : da.size = n) (n1 : 1 ≤ n) (n2 : n ≤ 16384) {w : World} (hL : Laid w) : Calls Tryz.prog 17 #[.agg #[.int .i64 6, .int .i64 4, .string hd, .string da], .bool false, .bool false] w fun e w' => e = .returned (.tuple #[.string (MdN 4 n hd da), .int .i64 0]) ∧ Below w.heap.size w w' := by
  apply pl hd da n ((24 + (n : Int)) % 256) ((24 + (n : Int)) / 256) ((24 + (n : Int)) / 256)
  all_goals first | exact hL | omega | (refine wrU _ ?_ ?_ <;> omega) | (refine wrI _ ?_ ?_ <;> omega) | (show (_ : ByteArray).size + _ < _; (first | (show 8 + hd.size < _; omega) | (rw [ByteArray.size_append]; show 8 + hd.size + da.size < _; omega)))
end Go.Proofs.YthlpiipobcomfaaGreatDoor
