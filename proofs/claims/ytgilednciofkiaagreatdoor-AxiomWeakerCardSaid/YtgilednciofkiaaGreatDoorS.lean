/- Each function of this translation has the small code that was printed for it. -/
import Derived.Test.YtgilednciofkiaaGreatDoorRows
import Derived.KernelRfl
import Derived.Test.YtgilednciofkiaaGreatDoorM3
import Derived.Test.YtgilednciofkiaaGreatDoorC
import Derived.Test.YtgilednciofkiaaGreatDoorC1
import Derived.Test.YtgilednciofkiaaGreatDoorK2
import Derived.Test.YtgilednciofkiaaGreatDoorR3
set_option linter.unusedSimpArgs false
set_option linter.unusedVariables false
namespace Go.Jq
open Go.Proofs
set_option maxRecDepth 100000
def awNames:Names:=[(333,5),(270,6),(335,7),(340,11),(21,18),(35,19),(338,20),(74,21),(274,22),(275,23),(341,24),(342,25),(343,26),(344,27),(345,28),(346,29),(79,32),(349,33),(350,34),(351,35),(347,41),(348,42),(100,43),(19,47),(20,48),(71,49),(72,50),(73,51),(75,52),(76,53),(77,54),(30,55),(133,56),(134,57),(280,58),(281,59),(282,60),(295,61),(352,62),(31,63),(33,65),(38,66),(36,68),(59,69),(63,72),(142,76),(143,77),(144,78),(145,79),(146,80),(298,92),(291,93),(296,94),(297,95),(60,96),(113,97),(114,98),(116,99),(28,100),(29,101),(32,102),(34,103),(125,104),(126,105),(127,106),(128,107),(129,108),(130,109),(131,110),(102,111),(52,112),(132,113),(56,114),(135,115),(136,116),(137,117),(138,118),(139,119),(57,120),(58,121),(184,122),(353,123),(354,124),(355,125),(356,126),(61,127),(62,128),(64,129),(65,130),(66,131),(53,132),(67,133),(68,134),(69,135),(70,136),(78,137),(104,138),(105,139),(106,140),(107,141),(108,142),(109,143),(110,144),(147,145),(101,147),(197,151),(198,152),(141,160),(299,163),(300,164),(111,165),(112,166),(174,167),(176,168),(51,169),(54,170),(55,171),(182,172),(183,173),(103,174),(98,175),(185,176),(186,177),(357,178),(358,179),(359,180),(360,181),(115,182),(117,183),(118,184),(119,185),(120,186),(99,187),(121,188),(122,189),(123,190),(124,191),(140,192),(171,193),(172,194),(173,195),(229,199),(230,200),(196,202),(195,216),(301,217),(175,218),(177,219),(178,220),(179,221),(180,222),(181,223),(170,224),(187,225),(222,248),(223,249),(249,257),(250,258)]
def awG:Nat→SFunc
  | 333=>c333
  | 270=>c270
  | 335=>c335
  | 340=>c340
  | 21=>c21
  | 35=>c35
  | 338=>c338
  | 74=>c74
  | 274=>c274
  | 275=>c275
  | 341=>c341
  | 342=>c342
  | 343=>c343
  | 344=>c344
  | 345=>c345
  | 346=>c346
  | 79=>c79
  | 349=>c349
  | 350=>c350
  | 351=>c351
  | 347=>c347
  | 348=>c348
  | 100=>c100
  | 19=>c19
  | 20=>c20
  | 71=>c71
  | 72=>c72
  | 73=>c73
  | 75=>c75
  | 76=>c76
  | 77=>c77
  | 30=>c30
  | 133=>c133
  | 134=>c134
  | 280=>c280
  | 281=>c281
  | 282=>c282
  | 295=>c295
  | 352=>c352
  | 31=>c31
  | 33=>c33
  | 38=>c38
  | 36=>c36
  | 59=>c59
  | 63=>c63
  | 142=>c142
  | 143=>c143
  | 144=>c144
  | 145=>c145
  | 146=>c146
  | 298=>c298
  | 291=>c291
  | 296=>c296
  | 297=>c297
  | 60=>c60
  | 113=>c113
  | 114=>c114
  | 116=>c116
  | 28=>c28
  | 29=>c29
  | 32=>c32
  | 34=>c34
  | 125=>c125
  | 126=>c126
  | 127=>c127
  | 128=>c128
  | 129=>c129
  | 130=>c130
  | 131=>c131
  | 102=>c102
  | 52=>c52
  | 132=>c132
  | 56=>c56
  | 135=>c135
  | 136=>c136
  | 137=>c137
  | 138=>c138
  | 139=>c139
  | 57=>c57
  | 58=>c58
  | 184=>c184
  | 353=>c353
  | 354=>c354
  | 355=>c355
  | 356=>c356
  | 61=>c61
  | 62=>c62
  | 64=>c64
  | 65=>c65
  | 66=>c66
  | 53=>c53
  | 67=>c67
  | 68=>c68
  | 69=>c69
  | 70=>c70
  | 78=>c78
  | 104=>c104
  | 105=>c105
  | 106=>c106
  | 107=>c107
  | 108=>c108
  | 109=>c109
  | 110=>c110
  | 147=>c147
  | 101=>c101
  | 197=>c197
  | 198=>c198
  | 141=>c141
  | 299=>c299
  | 300=>c300
  | 111=>c111
  | 112=>c112
  | 174=>c174
  | 176=>c176
  | 51=>c51
  | 54=>c54
  | 55=>c55
  | 182=>c182
  | 183=>c183
  | 103=>c103
  | 98=>c98
  | 185=>c185
  | 186=>c186
  | 357=>c357
  | 358=>c358
  | 359=>c359
  | 360=>c360
  | 115=>c115
  | 117=>c117
  | 118=>c118
  | 119=>c119
  | 120=>c120
  | 99=>c99
  | 121=>c121
  | 122=>c122
  | 123=>c123
  | 124=>c124
  | 140=>c140
  | 171=>c171
  | 172=>c172
  | 173=>c173
  | 229=>c229
  | 230=>c230
  | 196=>c196
  | 195=>c195
  | 301=>c301
  | 175=>c175
  | 177=>c177
  | 178=>c178
  | 179=>c179
  | 180=>c180
  | 181=>c181
  | 170=>c170
  | 187=>c187
  | 222=>c222
  | 223=>c223
  | 249=>c249
  | 250=>c250
  | _=>⟨0,0,.skip,[]⟩
theorem aw_c333:cFunc Tryz.prog awNames.ψ Tryz.f5 [[0],[3],[4,5],[4,22],[2],[4,6],[4,6],[4,6,27],[4,6,7],[4,6,7,8,9,10],[4,6,7,51],[2],[4,6,7,54],[4,6,11,12,13],[4,6,72],[2],[4,6],[2]] = some c333:=by kernel_rfl
theorem aw_c270:cFunc Tryz.prog awNames.ψ Tryz.f6 [[0,1,4],[4]] = some c270:=by kernel_rfl
theorem aw_c335:cFunc Tryz.prog awNames.ψ Tryz.f7 [[1,2],[1,2,6],[1,2,6,7],[1,2,6,7],[1,2,6,7,22],[1,2,6,7],[1,2,6,7],[1,2,6,8],[1,2,6,8,9],[1,2,6,8,9],[1,2,6,8,9,36],[1,2,6,8,9,10],[1,2,6,8,9,10,11],[1,2,6,8,9,10,11],[1,2,6,8,9,10,11,58],[1,2,6,8,9,10,11],[1,2,6,8,9,10,11,71],[4,5],[1,2,6,8,9,10,11],[1,2,6,8,9,10,12],[1,2,6,8,9,10,12],[1,2,6,8,9,10,12,76],[1,2,6,8,9,10,12,13],[1,2,6,8,9,10,12,13],[1,2,6,8,9,10,12,13,84],[1,2,6,8,9,10,12,13,14],[1,2,6,8,9,10,12,13,14],[1,2,6,8,9,10,12,13,14,95],[1,2,6,8,9,10,12,13,14,15],[1,2,6,8,9,10,12,13,14,15,108],[1,2,6,8,9,10,12,13,14],[1,2,6,8,9,10,12,13,14],[1,2,6,8,9,10,12,13],[1,2,6,8,9,10,12],[1,2,6,8,9,10,135],[1,2,6,8,9,137],[4,5],[1,2,6,8,9],[1,2,8,16],[16,17],[16,145],[4,5],[4,5]] = some c335:=by kernel_rfl
theorem aw_c340:cFunc Tryz.prog awNames.ψ Tryz.f11 [[2,3],[2,3,5],[2,3,5,15],[4],[2,3,6],[2,3,6,23],[4],[2,3,7],[2,3,7],[2,3,7,36],[2,3,7,8],[2,3,7,8,51],[4],[2,3,7],[4]] = some c340:=by kernel_rfl
theorem aw_c21:cFunc Tryz.prog awNames.ψ Tryz.f18 [[],[1,2],[1,2,3,4],[0]] = some c21:=by kernel_rfl
theorem aw_c35:cFunc Tryz.prog awNames.ψ Tryz.f19 [[0,3],[0,3,25],[4],[0,3,5,6,7,8],[0,3,5,6,9],[4]] = some c35:=by kernel_rfl
theorem aw_c338:cFunc Tryz.prog awNames.ψ Tryz.f20 [[0,3,4],[0,3,4,5],[4]] = some c338:=by kernel_rfl
theorem aw_c74:cFunc Tryz.prog awNames.ψ Tryz.f21 [[2,3,4],[4]] = some c74:=by kernel_rfl
theorem aw_c274:cFunc Tryz.prog awNames.ψ Tryz.f22 [[1,2],[1,2,3],[1,2,3,4],[1,2,3,4],[1,2,3,4,18],[1,2,3,4,5],[1,2,3,4,5,6],[1,2,3,4,5,6],[1,2,3,4,5,6,25],[1,2,3,4,5,6,40],[1,2,3,4,5,6],[1,2,3,4,5,6],[1,2,3,4],[1,2,3,4],[1,2,3,7],[1,2,3,7],[1,2,3,7,57],[1,2,3,7,8],[1,2,3,7,8,9],[1,2,3,7,8,9],[1,2,3,7,8,9,67],[1,2,3,7,8,9,10],[1,2,3,7,8,9,10,80],[1,2,3,7,8,9,10],[1,2,3,7,8,9],[1,2,3,7,8,9],[1,2,3,7],[1,2,3,7],[2]] = some c274:=by kernel_rfl
theorem aw_c275:cFunc Tryz.prog awNames.ψ Tryz.f23 [[1,2,4],[1,2,4,5],[1,2,4,5,6],[1,4,5,7],[1,4,5,7,8],[1,4,5,7,8,9],[1,4,5,7,8,9,32],[1,4,5,7,8,9],[1,4,5,7,8,9,10],[1,4,5,7,8,9,10,11],[1,4,5,7,8,9,10,11],[1,4,5,7,8,9,10,11,44],[1,4,5,7,8,9,10,11,12],[1,4,5,7,8,9,10,11,12,13],[1,4,5,7,8,9,10,11,12,13],[1,4,5,7,8,9,10,11,12,13,57],[1,4,5,7,8,9,10,11,12,13,14],[1,4,5,7,8,9,10,11,12,13,14,15],[1,4,5,7,8,9,10,11,12,13,14,15,16],[1,4,5,7,8,9,10,11,12,13,14,15,16,74],[1,4,5,7,8,9,10,11,12,13,14,15,16],[1,4,5,7,8,9,10,11,12,13,14,15,16,17],[1,4,5,7,8,9,10,11,12,13,15,16,17,83],[1,4,5,7,8,9,10,11,12,13,15,16,17,83,95],[1,4,5,7,8,9,10,11,12,13,15,16,17,83,95],[1,4,5,7,8,9,10,11,12,13,15,16,17,83,95],[1,4,5,7,8,9,10,11,12,13,15,16,17,83,95],[1,4,5,7,8,9,10,11,12,13],[1,4,5,7,8,9,10,11,12,13],[1,4,5,7,8,9,10,11,12,13,15,16,17,83,108],[1,4,5,7,8,9,10,11,12,13,15,16,17,83,108],[1,4,5,7,8,9,10,11,12,13,15,16,17,83,108],[1,4,5,7,8,9,10,11,12,13,15,16,17,83,108],[1,4,5,7,8,9,10,11,12,13],[1,4,5,7,8,9,10,11,12,13],[1,4,5,7,8,9,10,11,12,13,15,16,17,83,121],[1,4,5,7,8,9,10,11,12,13],[1,4,5,7,8,9,10,11,12,13,15,16,17,83,127],[1,4,5,7,8,9,10,11,12,13],[1,4,5,7,8,9,10,11,12,13],[1,4,5,7,8,9,10,11,12,13,15,16,17,139],[1,4,5,7,8,9,10,11,12,13],[1,4,5,7,8,9,10,11,12,13],[1,4,5,7,8,9,10,11,12,13],[1,4,5,7,8,9,10,11,12,13],[1,4,5,7,8,9,10,11],[1,4,5,7,8,9,10,11],[4,5,18],[4,5,18,158],[4,5],[4]] = some c275:=by kernel_rfl
theorem aw_c341:cFunc Tryz.prog awNames.ψ Tryz.f24 [[1],[1,3],[1,3,4],[1,3,4],[1,3,4,11],[1,3,4,5],[1,3,4,5],[1,3,4,5,21],[1,3,4,5,6],[1,3,4,5,38],[1,3,4,5],[1,3,4,5],[1,3,4],[2]] = some c341:=by kernel_rfl
theorem aw_c342:cFunc Tryz.prog awNames.ψ Tryz.f25 [[1,2,4,5,6,9],[1,2,4,5,6,9,23],[12],[1,2,4,5,6,9,13,14,15],[1,2,4,5,6,9,13,14,34],[12],[1,2,4,5,6,9,16],[1,2,4,5,6,9,18],[1,2,4,5,6,9,18,19],[1,2,4,5,6,9,18,19],[1,2,4,5,6,9,18,19,53],[1,2,4,5,6,9,18,19],[1,2,4,5,6,9,18,19],[12]] = some c342:=by kernel_rfl
theorem aw_c343:cFunc Tryz.prog awNames.ψ Tryz.f26 [[1],[2]] = some c343:=by kernel_rfl
theorem aw_c344:cFunc Tryz.prog awNames.ψ Tryz.f27 [[0,1],[0,1,5],[0,1,5],[0,1,5,9],[0,1,5,17],[4],[0,1,5],[4]] = some c344:=by kernel_rfl
theorem aw_c345:cFunc Tryz.prog awNames.ψ Tryz.f28 [[1,2,4,5,6,9],[1,2,4,5,6,9,18],[12],[1,2,4,5,6,9,13],[1,2,4,5,6,9,13],[1,2,4,5,6,9,13,30],[1,2,4,5,6,9,13,50],[12],[1,2,4,5,6,9,13],[12]] = some c345:=by kernel_rfl
theorem aw_c346:cFunc Tryz.prog awNames.ψ Tryz.f29 [[1],[1,3],[1,3,4],[1,3,4],[1,3,4,9],[1,3,4],[1,3,4],[2]] = some c346:=by kernel_rfl
theorem aw_c79:cFunc Tryz.prog awNames.ψ Tryz.f32 [[2,3],[4]] = some c79:=by kernel_rfl
theorem aw_c349:cFunc Tryz.prog awNames.ψ Tryz.f33 [[0,1],[0,1,5],[0,1,5],[0,1,5,19],[0,1,5,6,7],[0,1,5,8],[0,1,5,8,9],[0,1,5,8,9],[0,1,5,8,9,62],[0,1,5,8,9,68],[4],[0,1,5,8,9],[0,1,5],[4]] = some c349:=by kernel_rfl
theorem aw_c350:cFunc Tryz.prog awNames.ψ Tryz.f34 [[0,1],[0,1,5],[0,1,5],[0,1,5,16],[0,1,5,6],[0,1,5,6,29],[4],[0,1,5],[4]] = some c350:=by kernel_rfl
theorem aw_c351:cFunc Tryz.prog awNames.ψ Tryz.f35 [[0,1],[0,1,5],[4],[9],[4],[4]] = some c351:=by kernel_rfl
theorem aw_c347:cFunc Tryz.prog awNames.ψ Tryz.f41 [[1],[2]] = some c347:=by kernel_rfl
theorem aw_c348:cFunc Tryz.prog awNames.ψ Tryz.f42 [[1,2,3,7],[1,2,3,7,19],[6,7,8],[1,2,3,7,9],[1,2,3,7,9,10],[1,2,3,7,9,10,11],[1,2,3,7,9,10,11],[1,2,3,7,9,10,11,12,13],[1,2,3,7,9,10,11,12,32],[6,7,8],[1,2,3,7,9,10,11,12,14],[1,2,3,7,9,10,11,12,14,42],[1,2,3,7,9,10,11,12,46],[6,7,8],[1,2,3,7,9,10,11,12,14],[1,2,3,7,9,10,11,12,14],[1,2,3,7,9,10,11,14,15],[1,2,3,7,9,10,11,14,15],[1,2,3,7,9,10,11,14],[1,2,3,7,9,10,11]] = some c348:=by kernel_rfl
theorem aw_c100:cFunc Tryz.prog awNames.ψ Tryz.f43 [[1],[2]] = some c100:=by kernel_rfl
theorem aw_c19:cFunc Tryz.prog awNames.ψ Tryz.f47 [[3,4,5],[3,4,5,15],[6,7],[3,4,5],[3,4,5,8],[3,4,5,8,9],[5,8],[8,26],[6,7],[8],[6,7]] = some c19:=by kernel_rfl
theorem aw_c20:cFunc Tryz.prog awNames.ψ Tryz.f48 [[0],[0,1],[0]] = some c20:=by kernel_rfl
theorem aw_c71:cFunc Tryz.prog awNames.ψ Tryz.f49 [[1],[1,3],[1,3,4],[1,4,23],[2],[2]] = some c71:=by kernel_rfl
theorem aw_c72:cFunc Tryz.prog awNames.ψ Tryz.f50 [[1],[1,9],[2],[1,11,12,13],[1,11,12,13],[1,11,12,13,14],[1,3,4,11,12,13],[1,3,11,12,13,20],[1,3,5,11,12,13],[1,6,11,12,13],[1,11,12,13,32],[2],[1,11,12,13],[2]] = some c72:=by kernel_rfl
theorem aw_c73:cFunc Tryz.prog awNames.ψ Tryz.f51 [[1,2,3,4,5],[1,2,3,4,5,22],[1,2,3,4,5,6],[1,2,3,4,5,6,7],[1,2,3,4,5,7],[1,2,3,4,5,7,33,34,35],[1,2,3,4,5,7,33,34,35],[1,2,3,4,5,7,33,34,35,36],[1,2,3,4,5,7,8,9,33,34,35],[1,2,3,4,5,7,8,33,34,35,42],[1,2,3,4,5,7,33,34,35],[1,2,3,4,5,7,33,34,35],[1,2,3,4,5],[1,2,3,4,5,53,54,55],[1,2,3,4,5,53,54,55],[1,2,3,4,5,53,54,55,56],[1,2,3,4,5,11,53,54,55],[1,2,3,4,5,11,53,54,55,59,60,61],[1,2,3,4,5,11,53,54,55,59,60,61],[1,2,3,4,5,11,53,54,55,59,60,61,62],[1,2,3,4,5,11,12,13,53,54,55,59,60,61],[1,2,3,4,5,11,13,53,54,55,59,60,61,69,70,71],[1,2,3,4,5,11,13,53,54,55,59,60,61,69,70,71],[1,2,3,4,5,11,13,53,54,55,59,60,61,69,70,71,72],[1,2,3,4,5,11,13,15,53,54,55,59,60,61,69,70,71],[1,2,3,4,5,11,13,53,54,55,59,60,61,69,70,71],[1,2,3,4,5,11,13,53,54,55,59,60,61,69,70,71],[1,2,3,4,5,11,53,54,55,59,60,61],[1,2,3,4,5,53,54,55],[1,2,3,4,5,83,84,85],[1,2,3,4,5,83,84,85],[1,2,3,4,5,83,84,85,86],[1,2,3,4,5,16,17,83,84,85],[1,2,3,4,5,16,17,83,84,85,91],[1,2,3,4,5,16,17,83,84,85],[1,2,3,4,5,16,83,84,85,98,99,100],[1,2,3,4,5,16,83,84,85,98,99,100],[1,2,3,4,5,16,83,84,85,98,99,100,101],[1,2,3,4,5,16,19,83,84,85,98,99,100],[1,2,3,4,5,16,19,83,84,85,98,99,100,106],[1,2,3,4,5,16,83,84,85,98,99,100],[1,2,3,4,5,16,83,84,85,98,99,100],[1,2,3,4,5,83,84,85],[2,3,4,5]] = some c73:=by kernel_rfl
theorem aw_c75:cFunc Tryz.prog awNames.ψ Tryz.f52 [[3,4,5],[6]] = some c75:=by kernel_rfl
theorem aw_c76:cFunc Tryz.prog awNames.ψ Tryz.f53 [[0,4,5,6],[0,4,5,6,14],[0,4,5,6,14,16],[6],[0,4,5,6,14,19],[0,4,5,6,19],[6],[0,4,5,6,7],[0,4,5,6,7,8],[0,4,6,7,8,29,30,31],[0,4,6,7,8,29,30,31],[0,4,6,7,8,29,30,31,32],[0,4,6,7,8,10,29,30,31],[0,4,6,7,8,10,11,12,29,30,31],[0,4,6,7,8,10,13,29,30,31],[0,4,6,7,8,10,29,30,31,80],[0,4,6,7,8,29,30,31],[0,4,6,7,8,29,30,31],[6]] = some c76:=by kernel_rfl
theorem aw_c77:cFunc Tryz.prog awNames.ψ Tryz.f54 [[2,3,4],[2,3,4,5],[2,4,5,13,14,15],[2,4,5,13,14,15],[2,4,5,13,14,15,16],[2,4,5,7,13,14,15],[2,4,5,7,8,13,14,15],[2,4,5,7,13,14,15,38],[2,4,5,13,14,15],[2,4,5,13,14,15],[4]] = some c77:=by kernel_rfl
theorem aw_c30:cFunc Tryz.prog awNames.ψ Tryz.f55 [[1],[3],[3,8,9],[3,8,9],[3,8,9,10],[3,4,8,9],[3,8,9,17],[2],[3,8,9],[2]] = some c30:=by kernel_rfl
theorem aw_c133:cFunc Tryz.prog awNames.ψ Tryz.f56 [[2,3,4,6],[2,3,4,6,7],[2,3,4,6,7,16,17],[2,3,4,6,7,16,17],[2,3,4,6,7,16,17,18],[2,3,4,6,7,8,16,17],[2,3,4,6,7,16,17],[2,3,4,6,7,16,17],[6]] = some c133:=by kernel_rfl
theorem aw_c134:cFunc Tryz.prog awNames.ψ Tryz.f57 [[0,1],[4]] = some c134:=by kernel_rfl
theorem aw_c280:cFunc Tryz.prog awNames.ψ Tryz.f58 [[1],[1,3],[1,3,4],[1,3,4],[1,3,4,15],[1,3,4],[1,3,4],[1,3,5],[1,3,5],[1,3,5,30],[1,3,5,6],[1,3,5,6],[1,3,5,6,40],[1,3,5,6],[1,3,5,6],[1,3,5],[1,3,7],[1,3,7],[1,3,7,59],[1,3,7,8],[1,3,7,8],[1,3,7,8,70],[1,3,7,8],[1,3,7,8],[1,3,7],[3,9],[3,9,10],[3,9,10],[3,9,10,86],[3,9,10,91],[3,9,10],[3,9,10],[2]] = some c280:=by kernel_rfl
theorem aw_c281:cFunc Tryz.prog awNames.ψ Tryz.f59 [[1,2],[1,2,5],[1,2,5],[1,2,5,10],[1,2,5,20],[4],[1,2,5],[4]] = some c281:=by kernel_rfl
theorem aw_c282:cFunc Tryz.prog awNames.ψ Tryz.f60 [[0,1],[0,1],[0,1,8],[2],[2]] = some c282:=by kernel_rfl
theorem aw_c295:cFunc Tryz.prog awNames.ψ Tryz.f61 [[1,3,5,6],[1,3,5,6,28],[6,7],[6,8],[6,8,46],[6,7],[6,7]] = some c295:=by kernel_rfl
theorem aw_c352:cFunc Tryz.prog awNames.ψ Tryz.f62 [[2,3,4,5],[2,3,4,5,9],[2,3,4,5,9,22],[2,3,4,5,9,10],[2,3,4,5,9,10,11],[2,3,4,5,9,10,11],[2,3,4,5,9,10,11,28],[2,3,4,5,9,10,11,36],[2,3,4,5,9,10,11],[2,3,4,5,9,10,11],[8],[2,3,4,5,9,12],[2,3,4,5,9,12,61],[8],[2,3,4,5,9,12,13],[2,3,4,5,9,12,13],[2,3,4,5,9,12,13,79],[2,3,4,5,9,12,13,14],[2,3,4,5,9,12,13,107],[2,3,4,5,9,12,13,122],[8],[2,3,4,5,9,12,13],[8]] = some c352:=by kernel_rfl
theorem aw_c31:cFunc Tryz.prog awNames.ψ Tryz.f63 [[1,2,3],[1,2,3,12],[3,6],[3,6,23,24,25],[3,6,23,24,25],[3,6,23,24,25,26],[3,6,7,8,23,24,25],[3,6,23,24,25],[3,6,23,24,25],[3,6,48,49],[3,6,48,49],[3,6,48,49,50],[3,6,9,48,49],[3,6,9,48,49],[3,6,48,49],[3,6,48,49],[]] = some c31:=by kernel_rfl
theorem aw_c33:cFunc Tryz.prog awNames.ψ Tryz.f65 [[5,6,7,8,9],[6,7,8,9,11],[6,7,9,11,12],[6,7,9,11,13],[10]] = some c33:=by kernel_rfl
theorem aw_c38:cFunc Tryz.prog awNames.ψ Tryz.f66 [[0,2],[2]] = some c38:=by kernel_rfl
theorem aw_c36:cFunc Tryz.prog awNames.ψ Tryz.f68 [[]] = some c36:=by kernel_rfl
theorem aw_c59:cFunc Tryz.prog awNames.ψ Tryz.f69 [[1],[1,37],[2],[1,39,40,41],[1,39,40,41],[1,39,40,41,42],[1,3,4,39,40,41],[1,39,40,41,63],[2],[1,39,40,41],[1,5],[5,67,68,69],[5,67,68,69],[5,67,68,69,70],[5,7,67,68,69],[5,67,68,69,85],[2],[5,67,68,69],[2]] = some c59:=by kernel_rfl
theorem aw_c63:cFunc Tryz.prog awNames.ψ Tryz.f72 [[1,2],[1,5],[5,12,13,14],[5,12,13,14],[5,12,13,14,15],[5,6,7,12,13,14],[5,6,7,12,13,14,20],[5,12,13,14],[5,12,13,14],[4]] = some c63:=by kernel_rfl
theorem aw_c142:cFunc Tryz.prog awNames.ψ Tryz.f76 [[0],[0,3],[3,6,7,8],[3,6,7,8],[3,6,7,8,9],[3,5,6,7,8],[3,5,6,7,8,14],[2],[3,6,7,8],[2]] = some c142:=by kernel_rfl
theorem aw_c143:cFunc Tryz.prog awNames.ψ Tryz.f77 [[0,1,2],[0,1,2,11,12,13],[0,1,2,11,12,13],[0,1,2,11,12,13,14],[0,1,2,7,8,11,12,13],[0,1,2,7,8,11,12,13,21],[6],[0,1,2,8,9,11,12,13],[0,1,2,10,11,12,13],[0,1,2,10,11,12,13,31],[6],[0,1,2,11,12,13],[38],[6],[6]] = some c143:=by kernel_rfl
theorem aw_c144:cFunc Tryz.prog awNames.ψ Tryz.f78 [[2,3],[4]] = some c144:=by kernel_rfl
theorem aw_c145:cFunc Tryz.prog awNames.ψ Tryz.f79 [[0,1],[0,1,9,10,11],[0,1,9,10,11],[0,1,9,10,11,12],[0,1,5,6,9,10,11],[0,1,5,6,9,10,11,19],[4],[0,1,6,7,9,10,11],[0,1,8,9,10,11],[0,1,8,9,10,11,28],[4],[0,1,9,10,11],[35],[4],[4]] = some c145:=by kernel_rfl
theorem aw_c146:cFunc Tryz.prog awNames.ψ Tryz.f80 [[0,1,2],[0,1,2,11,12,13],[0,1,2,11,12,13],[0,1,2,11,12,13,14],[0,1,2,7,8,11,12,13],[0,1,2,7,8,11,12,13,21],[6],[0,1,2,8,9,11,12,13],[0,1,2,10,11,12,13],[0,1,2,10,11,12,13,31],[6],[0,1,2,11,12,13],[38],[6],[6]] = some c146:=by kernel_rfl
theorem aw_c298:cFunc Tryz.prog awNames.ψ Tryz.f92 [[1,2],[4]] = some c298:=by kernel_rfl
theorem aw_c291:cFunc Tryz.prog awNames.ψ Tryz.f93 [[1,2,4],[1,2,4,8],[4],[4]] = some c291:=by kernel_rfl
theorem aw_c296:cFunc Tryz.prog awNames.ψ Tryz.f94 [[2,3,4,6],[2,3,4,6,8],[2,3,4,6,8,9],[6],[2,3,4,6,8,18],[6],[2,3,4,6,24],[2,3,4,6,31],[6],[6],[6]] = some c296:=by kernel_rfl
theorem aw_c297:cFunc Tryz.prog awNames.ψ Tryz.f95 [[1,3,4,6,8],[1,3,4,6,8,9,10],[1,3,4,6,8,9,19],[8],[1,3,4,6,8,9,28],[1,4,6,8],[1,4,6,8],[8]] = some c297:=by kernel_rfl
theorem aw_c60:cFunc Tryz.prog awNames.ψ Tryz.f96 [[1,2,4],[4]] = some c60:=by kernel_rfl
theorem aw_c113:cFunc Tryz.prog awNames.ψ Tryz.f97 [[1,3,5,6],[5,6,8],[5,6,8,22],[6,7],[6,9],[6,9,36],[6,7],[6,7]] = some c113:=by kernel_rfl
theorem aw_c114:cFunc Tryz.prog awNames.ψ Tryz.f98 [[2,3,4,6],[2,3,4,6,9],[2,3,4,6,9,10],[6,7],[2,3,4,6,9,19],[6,7],[2,3,4,6,25],[2,3,4,6,32],[6,7],[6,7],[6,7]] = some c114:=by kernel_rfl
theorem aw_c116:cFunc Tryz.prog awNames.ψ Tryz.f99 [[1,3,4,6,8],[1,3,4,6,8,9,10],[1,3,4,6,8,9,19],[8],[1,3,4,6,8,9,28],[1,4,6,8],[1,4,6,8],[8]] = some c116:=by kernel_rfl
theorem aw_c28:cFunc Tryz.prog awNames.ψ Tryz.f100 [[0,1],[4]] = some c28:=by kernel_rfl
theorem aw_c29:cFunc Tryz.prog awNames.ψ Tryz.f101 [[1,2,4],[1,2,4,5],[1,2,4,5,6],[1,2,4,5,6,7],[1,2,4,5,6,7,22,23,24],[1,2,4,5,6,7,22,23,24],[1,2,4,5,6,7,22,23,24,25],[1,2,4,5,6,7,8,9,22,23,24],[1,2,4,5,6,7,8,9,22,23,24,31],[1,2,4,5,6,7,8,9,22,23,24,35,36,37],[1,2,4,5,6,7,8,9,22,23,24,35,36,37],[1,2,4,5,6,7,8,9,22,23,24,35,36,37,38],[1,2,4,5,6,7,8,9,11,22,23,24,35,36,37],[1,2,4,5,6,7,8,9,11,22,23,24,35,36,37,45],[1,2,4,5,6,7,8,9,11,22,23,24,35,36,37,49,50,51],[1,2,4,5,6,7,8,9,11,22,23,24,35,36,37,49,50,51],[1,2,4,5,6,7,8,9,11,22,23,24,35,36,37,49,50,51,52],[1,2,4,5,6,7,8,9,11,13,22,23,24,35,36,37,49,50,51],[1,2,4,5,6,7,8,9,11,13,22,23,24,35,36,37,49,50,51,58,59,60],[1,2,4,5,6,7,8,9,11,13,22,23,24,35,36,37,49,50,51,58,59,60],[1,2,4,5,6,7,8,9,11,13,22,23,24,35,36,37,49,50,51,58,59,60,61],[1,2,4,5,6,7,8,9,11,13,15,22,23,24,35,36,37,49,50,51,58,59,60],[1,2,4,5,6,7,8,9,11,13,15,22,23,24,35,36,37,49,50,51,58,59,60,66],[1,2,4,5,6,7,8,9,11,13,22,23,24,35,36,37,49,50,51,58,59,60],[1,2,4,5,6,7,8,9,11,13,22,23,24,35,36,37,49,50,51,58,59,60],[1,2,4,5,6,7,8,9,11,22,23,24,35,36,37,49,50,51],[1,2,4,5,6,7,8,9,22,23,24,35,36,37],[1,2,4,5,6,7,8,22,23,24,83],[1,2,4,5,6,7,22,23,24],[1,2,4,5,6,7,22,23,24],[4]] = some c29:=by kernel_rfl
theorem aw_c32:cFunc Tryz.prog awNames.ψ Tryz.f102 [[0,1,2,3,4,5],[8]] = some c32:=by kernel_rfl
theorem aw_c34:cFunc Tryz.prog awNames.ψ Tryz.f103 [[1,2,3,4],[2,3,4,8],[2,3],[5]] = some c34:=by kernel_rfl
theorem aw_c125:cFunc Tryz.prog awNames.ψ Tryz.f104 [[0,1],[3]] = some c125:=by kernel_rfl
theorem aw_c126:cFunc Tryz.prog awNames.ψ Tryz.f105 [[0,1],[4]] = some c126:=by kernel_rfl
theorem aw_c127:cFunc Tryz.prog awNames.ψ Tryz.f106 [[0,1],[3]] = some c127:=by kernel_rfl
theorem aw_c128:cFunc Tryz.prog awNames.ψ Tryz.f107 [[0,1],[4]] = some c128:=by kernel_rfl
theorem aw_c129:cFunc Tryz.prog awNames.ψ Tryz.f108 [[0,1],[3]] = some c129:=by kernel_rfl
theorem aw_c130:cFunc Tryz.prog awNames.ψ Tryz.f109 [[1,2],[1,9,10,11],[1,9,10,11],[1,9,10,11,12],[1,6,9,10,11],[1,6,7,9,10,11],[1,6,7,9,10,11,19],[4],[1,9,10,11],[4]] = some c130:=by kernel_rfl
theorem aw_c131:cFunc Tryz.prog awNames.ψ Tryz.f110 [[0,1],[0,1,7,8],[0,1,7,8],[0,1,7,8,9],[0,1,5,7,8],[0,1,5,7,8,16],[4],[0,1,7,8],[4]] = some c131:=by kernel_rfl
theorem aw_c102:cFunc Tryz.prog awNames.ψ Tryz.f111 [[0,1],[4]] = some c102:=by kernel_rfl
theorem aw_c52:cFunc Tryz.prog awNames.ψ Tryz.f112 [[0,2],[0,2,10],[2],[0,2,3],[0,2,3,15,16,17],[0,2,3,15,16,17],[0,2,3,15,16,17,18],[0,2,3,4,5,15,16,17],[0,2,3,4,5,15,16,17,22,23,24],[0,2,3,4,5,15,16,17,22,23,24],[0,2,3,4,5,15,16,17,22,23,24,25],[0,2,3,4,5,6,7,15,16,17,22,23,24],[0,2,3,4,5,6,15,16,17,22,23,24,55],[0,2,3,4,5,15,16,17,22,23,24],[0,2,3,4,5,15,16,17,22,23,24],[0,2,3,15,16,17],[2]] = some c52:=by kernel_rfl
theorem aw_c132:cFunc Tryz.prog awNames.ψ Tryz.f113 [[1,2,4],[1,2,4,5],[1,2,4,5,11,12],[1,2,4,5,11,12],[1,2,4,5,11,12,13],[1,2,4,5,6,11,12],[1,2,4,5,6,11,12,17],[1,2,4,5,11,12],[1,2,4,5,11,12],[4]] = some c132:=by kernel_rfl
theorem aw_c56:cFunc Tryz.prog awNames.ψ Tryz.f114 [[1,2,3,6],[1,2,3,6,14],[3,6],[6]] = some c56:=by kernel_rfl
theorem aw_c135:cFunc Tryz.prog awNames.ψ Tryz.f115 [[2,3,4],[2,3,4,5],[2,4,5,14,15,16],[2,4,5,14,15,16],[2,4,5,14,15,16,17],[2,4,5,7,14,15,16],[2,4,5,7,8,9,14,15,16],[2,4,5,7,14,15,16,46],[2,4,5,14,15,16],[2,4,5,14,15,16],[4]] = some c135:=by kernel_rfl
theorem aw_c136:cFunc Tryz.prog awNames.ψ Tryz.f116 [[2,3,4],[2,3,4,5],[3,4,5,13,14,15],[3,4,5,13,14,15],[3,4,5,13,14,15,16],[3,4,5,6,7,13,14,15],[3,4,5,6,13,14,15,21],[3,4,5,13,14,15],[3,4,5,13,14,15],[3,4,5,8],[3,4,5,8,30,31],[3,4,5,8,30,31],[3,4,5,8,30,31,32],[3,4,5,8,9,30,31],[3,4,5,8,9,30,31,39,40,41],[3,4,5,8,9,30,31,39,40,41],[3,4,5,8,9,30,31,39,40,41,42],[3,4,5,8,9,11,30,31,39,40,41],[3,4,5,8,9,30,31,39,40,41],[3,4,5,8,9,30,31,39,40,41],[3,4,5,8,30,31],[4]] = some c136:=by kernel_rfl
theorem aw_c137:cFunc Tryz.prog awNames.ψ Tryz.f117 [[1],[2]] = some c137:=by kernel_rfl
theorem aw_c138:cFunc Tryz.prog awNames.ψ Tryz.f118 [[1],[1,3],[1,3,8,9],[1,3,8,9],[1,3,8,9,10],[1,3,4,8,9],[1,3,4,8,9,16,17,18],[1,3,4,8,9,16,17,18],[1,3,4,8,9,16,17,18,19],[1,3,4,6,8,9,16,17,18],[1,3,4,8,9,16,17,18],[1,3,4,8,9,16,17,18],[1,3,8,9],[2]] = some c138:=by kernel_rfl
theorem aw_c139:cFunc Tryz.prog awNames.ψ Tryz.f119 [[1,2,3],[6]] = some c139:=by kernel_rfl
theorem aw_c57:cFunc Tryz.prog awNames.ψ Tryz.f120 [[1,2],[1,2,6,7],[1,2,6,7],[1,2,6,7,8],[1,2,3,6,7],[1,2,3,6,7,11,12],[1,2,3,6,7,11,12],[1,2,3,6,7,11,12,13],[1,2,3,4,6,7,11,12],[1,2,3,4,6,7,11,12,20],[1,2,3,6,7,11,12],[1,2,3,6,7,11,12],[1,2,6,7],[2]] = some c57:=by kernel_rfl
theorem aw_c58:cFunc Tryz.prog awNames.ψ Tryz.f121 [[0,1],[4]] = some c58:=by kernel_rfl
theorem aw_c184:cFunc Tryz.prog awNames.ψ Tryz.f122 [[0],[0],[0,7],[2],[2]] = some c184:=by kernel_rfl
theorem aw_c353:cFunc Tryz.prog awNames.ψ Tryz.f123 [[0,2],[0,2,3],[0,2,3,9],[2],[0,2,3],[0,2,3,4],[0,2,3,4],[0,2,3,4,17],[0,2,3,4,5],[0,2,3,4,5],[0,2,3,4,5,23],[0,2,3,4,5,73],[0,2,3,4,5],[0,2,3,4,5],[0,2,3,4],[2]] = some c353:=by kernel_rfl
theorem aw_c354:cFunc Tryz.prog awNames.ψ Tryz.f124 [[]] = some c354:=by kernel_rfl
theorem aw_c355:cFunc Tryz.prog awNames.ψ Tryz.f125 [[1],[1,3],[1,3,4],[1,3,4],[1,3,4,10],[1,3,4,15],[2],[1,3,4],[2]] = some c355:=by kernel_rfl
theorem aw_c356:cFunc Tryz.prog awNames.ψ Tryz.f126 [[2,3,4,5],[2,3,4,5,9],[2,3,4,5,9,19],[2,3],[8],[2,3,4,5,9,10],[2,3,4,5,9,10,11],[2,3,4,5,9,10,11],[2,3,4,5,9,10,11,37],[2,3,4,5,9,10,11,60],[2,3,4,5,9,10,11],[2,3,4,5,9,10,11],[8]] = some c356:=by kernel_rfl
theorem aw_c61:cFunc Tryz.prog awNames.ψ Tryz.f127 [[0,1,4],[0,1,4],[0,1,4,5,6],[0,1,4,5,6],[0,1,4,5,32],[0,1,4,5,7,8],[0,1,4,5,7,42],[],[0,1,4],[0,1,4]] = some c61:=by kernel_rfl
theorem aw_c62:cFunc Tryz.prog awNames.ψ Tryz.f128 [[0],[0,3],[0,3,4],[0,3,4],[0,3,4,21,22,23],[0,3,4,21,22,23],[0,3,4,21,22,23,24],[0,3,4,5,6,21,22,23],[0,3,4,5,6,21,22,23,30],[0,3,4,5,6,21,22,23],[0,3,4,5,6,7,21,22,23],[0,3,4,5,6,7,21,22,23],[0,3,4,5,6,7,21,22,23,39],[0,3,4,5,6,7,21,22,23,53],[0,3,4,5,6,7,8,21,22,23],[0,3,4,5,6,7,8,21,22,23],[0,3,4,5,6,7,8,21,22,23],[0,3,4,5,6,7,8,21,22,23,77],[0,3,4,5,6,7,21,22,23,79],[2],[0,3,4,5,6,7,21,22,23],[0,3,4,5,21,22,23,86],[2],[0,3,4,21,22,23],[0,3,4,21,22,23],[2]] = some c62:=by kernel_rfl
theorem aw_c64:cFunc Tryz.prog awNames.ψ Tryz.f129 [[1,2],[1,2,3],[1,2,3,10,11],[1,2,3,10,11],[1,2,3,10,11,12],[1,2,3,4,10,11],[1,2,3,4,5,10,11],[1,2,3,4,5,10,11],[1,2,3,4,5,10,11,19],[1,2,3,4,5,10,11],[1,2,3,4,5,10,11],[1,2,3,10,11],[2]] = some c64:=by kernel_rfl
theorem aw_c65:cFunc Tryz.prog awNames.ψ Tryz.f130 [[0,1,2,3],[6]] = some c65:=by kernel_rfl
theorem aw_c66:cFunc Tryz.prog awNames.ψ Tryz.f131 [[3,4,5],[3,4,5,7],[3,4,5,7,8],[3,8],[6]] = some c66:=by kernel_rfl
theorem aw_c53:cFunc Tryz.prog awNames.ψ Tryz.f132 [[1,2],[1,2,8],[4],[4]] = some c53:=by kernel_rfl
theorem aw_c67:cFunc Tryz.prog awNames.ψ Tryz.f133 [[3,4,5],[3,4,5,7],[3,4,5,7,8],[8],[6]] = some c67:=by kernel_rfl
theorem aw_c68:cFunc Tryz.prog awNames.ψ Tryz.f134 [[0,1,2,3],[5]] = some c68:=by kernel_rfl
theorem aw_c69:cFunc Tryz.prog awNames.ψ Tryz.f135 [[0],[0,4],[2],[2]] = some c69:=by kernel_rfl
theorem aw_c70:cFunc Tryz.prog awNames.ψ Tryz.f136 [[0],[0,4],[2],[2]] = some c70:=by kernel_rfl
theorem aw_c78:cFunc Tryz.prog awNames.ψ Tryz.f137 [[0,1,4],[]] = some c78:=by kernel_rfl
theorem aw_c104:cFunc Tryz.prog awNames.ψ Tryz.f138 [[1],[1,3],[3,7,8,9],[3,7,8,9],[3,7,8,9,10],[3,5,7,8,9],[3,7,8,9],[3,7,8,9],[2]] = some c104:=by kernel_rfl
theorem aw_c105:cFunc Tryz.prog awNames.ψ Tryz.f139 [[0],[2]] = some c105:=by kernel_rfl
theorem aw_c106:cFunc Tryz.prog awNames.ψ Tryz.f140 [[0,1],[3]] = some c106:=by kernel_rfl
theorem aw_c107:cFunc Tryz.prog awNames.ψ Tryz.f141 [[0],[0,5,6,7],[0,5,6,7],[0,5,6,7,8],[0,3,4,5,6,7],[0,5,6,7,29],[2],[0,5,6,7],[2]] = some c107:=by kernel_rfl
theorem aw_c108:cFunc Tryz.prog awNames.ψ Tryz.f142 [[0,1],[4]] = some c108:=by kernel_rfl
theorem aw_c109:cFunc Tryz.prog awNames.ψ Tryz.f143 [[1,2],[3]] = some c109:=by kernel_rfl
theorem aw_c110:cFunc Tryz.prog awNames.ψ Tryz.f144 [[1,2],[1,2,5],[1,2,5,6],[1,2,5,6,11],[1,2,5,6,11,12],[1,2,5],[2,5,6],[1,2,5,6,11,29],[1,2,5],[2,5,6],[1,2,5,6,11,46],[1,2,5,11,48],[1,2,5],[2,5,6],[2,5,11,81],[2,5],[2,5,6],[2,5,129],[2,5],[2,5,6],[4],[4]] = some c110:=by kernel_rfl
theorem aw_c147:cFunc Tryz.prog awNames.ψ Tryz.f145 [[1],[1,3],[3,7,8,9],[3,7,8,9],[3,7,8,9,10],[3,4,5,7,8,9],[3,7,8,9],[3,7,8,9],[2]] = some c147:=by kernel_rfl
theorem aw_c101:cFunc Tryz.prog awNames.ψ Tryz.f147 [[1],[2]] = some c101:=by kernel_rfl
theorem aw_c197:cFunc Tryz.prog awNames.ψ Tryz.f151 [[0,1],[0,1,5],[0,1,5,6],[0,1,6,11],[12],[4],[4],[0,1,13],[4],[0,1,16],[4],[19],[4],[4]] = some c197:=by kernel_rfl
theorem aw_c198:cFunc Tryz.prog awNames.ψ Tryz.f152 [[0,1],[0,1,5],[0,1,5,6],[0,1,6,11],[12],[4],[4],[0,1,13],[4],[0,1,16],[4],[19],[4],[4]] = some c198:=by kernel_rfl
theorem aw_c141:cFunc Tryz.prog awNames.ψ Tryz.f160 [[0],[2],[2]] = some c141:=by kernel_rfl
theorem aw_c299:cFunc Tryz.prog awNames.ψ Tryz.f163 [[1,3,5,6],[1,3,5,6],[1,3,5,6,17],[1,3,5,6,7],[1,3,5,6,7,28],[1,3,5,6,7,28,30],[1,3,5,6,7,8],[1,3,5,6,7,8,38],[1,3,5,6,7,8],[1,3,5,6],[1,3,5,6],[1,3,5,6,7,59],[1,3,5,6,7,69],[1,3,5,6],[1,3,5,6],[6],[6]] = some c299:=by kernel_rfl
theorem aw_c300:cFunc Tryz.prog awNames.ψ Tryz.f164 [[2,3],[2,3,12],[4],[4]] = some c300:=by kernel_rfl
theorem aw_c111:cFunc Tryz.prog awNames.ψ Tryz.f165 [[0,3,4],[0,3,4],[0,3,4,19],[0,3,4,5],[0,3,4,5,6,7],[0,3,4,5,6,7,34],[0,3,4,5,6,7,34,36],[0,3,4,5,6,8,9],[0,3,4,5,6,8,46],[0,3,4,5,6],[0,3,4],[0,3,4,5,6,7,52],[0,3,4,5,56],[0,3,4],[4],[0,3,4],[4]] = some c111:=by kernel_rfl
theorem aw_c112:cFunc Tryz.prog awNames.ψ Tryz.f166 [[1,2],[1,2,13],[4],[4]] = some c112:=by kernel_rfl
theorem aw_c174:cFunc Tryz.prog awNames.ψ Tryz.f167 [[2,3],[2,3,12],[4],[4]] = some c174:=by kernel_rfl
theorem aw_c176:cFunc Tryz.prog awNames.ψ Tryz.f168 [[0,1,2,11],[]] = some c176:=by kernel_rfl
theorem aw_c51:cFunc Tryz.prog awNames.ψ Tryz.f169 [[0,1,2],[5]] = some c51:=by kernel_rfl
theorem aw_c54:cFunc Tryz.prog awNames.ψ Tryz.f170 [[0],[0,3],[0,3],[0,3,5],[0,3],[0,3],[2]] = some c54:=by kernel_rfl
theorem aw_c55:cFunc Tryz.prog awNames.ψ Tryz.f171 [[0,1,2],[0,1,2,7],[0,1,2,7,19],[0,2,7],[2,7,31],[7],[6]] = some c55:=by kernel_rfl
theorem aw_c182:cFunc Tryz.prog awNames.ψ Tryz.f172 [[0,1],[0,1,7,8],[0,1,7,8],[0,1,7,8,9],[0,1,5,7,8],[0,1,5,7,8,16],[4],[0,1,7,8],[4]] = some c182:=by kernel_rfl
theorem aw_c183:cFunc Tryz.prog awNames.ψ Tryz.f173 [[0,1],[0,1,7,8],[0,1,7,8],[0,1,7,8,9],[0,1,5,7,8],[0,1,5,7,8,16],[4],[0,1,7,8],[4]] = some c183:=by kernel_rfl
theorem aw_c103:cFunc Tryz.prog awNames.ψ Tryz.f174 [[0],[0,8],[2],[2]] = some c103:=by kernel_rfl
theorem aw_c98:cFunc Tryz.prog awNames.ψ Tryz.f175 [[1,2],[4]] = some c98:=by kernel_rfl
theorem aw_c185:cFunc Tryz.prog awNames.ψ Tryz.f176 [[1],[2]] = some c185:=by kernel_rfl
theorem aw_c186:cFunc Tryz.prog awNames.ψ Tryz.f177 [[2,3,4],[2,3,4,5],[2,3,4,5,6],[2,3,4,5,6,19,20],[2,3,4,5,6,19,20],[2,3,4,5,6,19,20,21],[2,3,4,5,6,7,19,20],[2,3,4,5,6,7,8,19,20],[2,3,4,5,6,7,8,19,20],[2,3,4,5,6,7,8,19,20,30],[2,3,4,5,6,7,8,19,20],[2,3,4,5,6,7,8,19,20],[2,3,4,5,6,19,20],[4]] = some c186:=by kernel_rfl
theorem aw_c357:cFunc Tryz.prog awNames.ψ Tryz.f178 [[1,2],[1,2,3],[1,2,3],[1,2,3,8],[1,2,3,4],[1,2,3,4],[1,2,3,4,14],[1,2,3,4,19],[1,2,3,4],[1,2,3,4],[1,2,3],[2]] = some c357:=by kernel_rfl
theorem aw_c358:cFunc Tryz.prog awNames.ψ Tryz.f179 [[0,1,2],[6]] = some c358:=by kernel_rfl
theorem aw_c359:cFunc Tryz.prog awNames.ψ Tryz.f180 [[0,3],[0,3,5,6],[0,3,5,6],[0,3,5,6,12],[0,3,5,6,7],[0,3,5,6,7,23],[0,3,5,6],[0,3,5,6],[0,3,5,39],[4],[0,3,5],[0,3,5],[0],[4]] = some c359:=by kernel_rfl
theorem aw_c360:cFunc Tryz.prog awNames.ψ Tryz.f181 [[2,3,4,5,6,7],[2,3,4,5,6,7,17],[12],[2,3,4,5,6,7,13],[2,3,4,5,6,7,13],[2,3,4,5,6,7,13,37],[2,3,4,5,6,7,13,14],[2,3,4,5,6,7,13,65],[12],[2,3,4,5,6,7,13],[12]] = some c360:=by kernel_rfl
theorem aw_c115:cFunc Tryz.prog awNames.ψ Tryz.f182 [[0,1,3,6],[0,1,3,6,8],[0,1,3,6,8],[0,1,3,6,8],[0,1,6],[0,1,6,46],[]] = some c115:=by kernel_rfl
theorem aw_c117:cFunc Tryz.prog awNames.ψ Tryz.f183 [[0],[0,4],[2],[2]] = some c117:=by kernel_rfl
theorem aw_c118:cFunc Tryz.prog awNames.ψ Tryz.f184 [[0,1,2,6],[0,1,2,6,7],[0,1,2,6,7,8],[0,1,6,7],[0,1,6],[0,1],[]] = some c118:=by kernel_rfl
theorem aw_c119:cFunc Tryz.prog awNames.ψ Tryz.f185 [[0],[0,4],[0,4,5],[0,4,5,6],[0,4,5,6,33,34,35],[0,4,5,6,33,34,35],[0,4,5,6,33,34,35,36],[0,4,5,6,7,8,33,34,35],[0,4,5,6,8,33,34,35],[0,4,5,6,33,34,35],[0,4,5,6,33,34,35],[0,4,5,6,53,54,55],[0,4,5,6,53,54,55],[0,4,5,6,53,54,55,56],[0,4,5,6,10,53,54,55],[0,4,5,6,53,54,55,60,61,62],[0,4,5,6,53,54,55,60,61,62],[0,4,5,6,53,54,55,60,61,62,63],[0,4,5,6,12,53,54,55,60,61,62],[0,4,5,6,12,13,53,54,55,60,61,62],[0,4,5,6,12,13,53,54,55,60,61,62,67],[0,4,5,6,12,13,53,54,55,60,61,62],[0,4,5,6,13,14,53,54,55,60,61,62],[0,4,5,6,13,14,53,54,55,60,61,62,85],[0,4,5,6,13,53,54,55,60,61,62],[0,4,5,6,53,54,55,60,61,62],[0,4,5,6,53,54,55,60,61,62],[0,4,5,6,53,54,55],[2,3]] = some c119:=by kernel_rfl
theorem aw_c120:cFunc Tryz.prog awNames.ψ Tryz.f186 [[0,1,5],[0,1,5,12,13,14],[0,1,5,12,13,14],[0,1,5,12,13,14,15],[0,1,5,7,8,12,13,14],[0,1,5,7,8,12,13,14,26],[0,1,5,12,13,14,40],[6],[0,1,5,12,13,14],[6]] = some c120:=by kernel_rfl
theorem aw_c99:cFunc Tryz.prog awNames.ψ Tryz.f187 [[0],[0,4],[2],[2]] = some c99:=by kernel_rfl
theorem aw_c121:cFunc Tryz.prog awNames.ψ Tryz.f188 [[0,1,2,3,4,5],[0,1,2,3,4,5,15],[7],[0,1,2,4,5,19,20,21],[0,1,2,4,5,19,20,21],[0,1,2,4,5,19,20,21,22],[0,1,2,4,5,9,19,20,21],[0,1,2,4,5,9,19,20,21,38],[0,1,2,4,5,9,19,20,21],[0,1,2,4,5,10,19,20,21],[0,1,2,4,5,10,19,20,21],[0,1,2,4,5,19,20,21,54],[7],[0,1,2,4,5,19,20,21],[7]] = some c121:=by kernel_rfl
theorem aw_c122:cFunc Tryz.prog awNames.ψ Tryz.f189 [[0],[0,3],[3,6,7,8],[3,6,7,8],[3,6,7,8,9],[3,5,6,7,8],[3,6,7,8],[3,6,7,8],[2]] = some c122:=by kernel_rfl
theorem aw_c123:cFunc Tryz.prog awNames.ψ Tryz.f190 [[1,2,3,4,5,6],[1,2,3,4,5,6,13],[2,3,8],[3,8,16,17,18],[3,8,16,17,18],[3,8,16,17,18,19],[3,8,9,10,16,17,18],[3,8,16,17,18],[3,8,16,17,18],[7],[7]] = some c123:=by kernel_rfl
theorem aw_c124:cFunc Tryz.prog awNames.ψ Tryz.f191 [[0,1,2,3],[2,3],[5]] = some c124:=by kernel_rfl
theorem aw_c140:cFunc Tryz.prog awNames.ψ Tryz.f192 [[0,1,2,3,4,10],[0,1,2,3,4,10,11],[0,1,2,3,4,10,11],[0,1,2,3,4,10,11,12],[0,1,2,3,4,10,11,12,25],[],[0,1,2,3,4,10,11,12,32],[],[0,1,2,3,4,10,11,12,39],[0,1,2,3,4,10,11,12],[0,1,2,3,4,10,11,12],[0,1,2,3,4,10,11,12,13,14],[0,1,2,3,4,10,11,12,13,14,56],[0,1,2,3,4,10,11,12,13],[0,1,2,3,4,10,11,12,13],[0,1,2,3,4,10,11,12,13,14],[0,1,2,3,4,10,11,12,13,75],[0,1,2,3,4,10,11,12,13,80],[0,1,2,3,4,10,11,12,13,97],[0,2,3,4,10,11,15],[0,1,2,3,4,10,11],[0,1,2,3,4,12,16,17],[0,1,2,3,4,11,12,16],[0,1,2,3,4,11,12,16,18,19],[0,1,2,3,4,11,16,18,19,20],[0,1,2,3,4,11,16,18,19,20,125],[0,1,2,3,4,10,11,16],[0,2,3,4,10,11,16],[0,1,2,3,4,10,11],[0,1,2,3,4,10,11,16],[0,1,3,4,10,11,16],[0,1,2,3,4,10,11]] = some c140:=by kernel_rfl
theorem aw_c171:cFunc Tryz.prog awNames.ψ Tryz.f193 [[0,1],[0,1,7,8],[0,1,7,8],[0,1,7,8,9],[0,1,5,7,8],[0,1,5,7,8,16],[4],[0,1,7,8],[4]] = some c171:=by kernel_rfl
theorem aw_c172:cFunc Tryz.prog awNames.ψ Tryz.f194 [[1],[2]] = some c172:=by kernel_rfl
theorem aw_c173:cFunc Tryz.prog awNames.ψ Tryz.f195 [[0],[2]] = some c173:=by kernel_rfl
theorem aw_c229:cFunc Tryz.prog awNames.ψ Tryz.f199 [[0],[2]] = some c229:=by kernel_rfl
theorem aw_c230:cFunc Tryz.prog awNames.ψ Tryz.f200 [[0],[2]] = some c230:=by kernel_rfl
theorem aw_c196:cFunc Tryz.prog awNames.ψ Tryz.f202 [[0,2],[0,2,4],[0],[0,2],[0,2,8],[0,2],[0,2],[0,2,14],[0,2],[0,2],[2]] = some c196:=by kernel_rfl
theorem aw_c195:cFunc Tryz.prog awNames.ψ Tryz.f216 [[0,2],[0,2,4],[0],[0,2],[0,2,8],[0,2],[0,2],[2]] = some c195:=by kernel_rfl
theorem aw_c301:cFunc Tryz.prog awNames.ψ Tryz.f217 [[0,1,2],[0,1,2,8],[0,1,2,8],[1,2,8,13],[1,2,8,13,14],[6,7],[1,2,8,13,22],[6,7],[1,2,8,13,30],[6,7],[1,2,8,13,38],[6,7],[1,2,8,13,43],[6,7],[1,2,8,13,48],[6,7],[1,2,8,13,53],[6,7],[1,2,8,13,60],[6,7],[1,2,13,65],[9],[1,2,13,70],[9],[1,2,75],[9],[6,7],[80],[6,7],[6,7]] = some c301:=by kernel_rfl
theorem aw_c175:cFunc Tryz.prog awNames.ψ Tryz.f218 [[0,1,2],[0,1,2,8],[1,2,8,12],[1,2,8,12,13],[6,7],[1,2,8,12,18],[6,7],[1,2,8,12,23],[6,7],[1,2,8,12,28],[6,7],[1,2,8,12,33],[6,7],[1,2,8,12,38],[6,7],[1,2,8,12,43],[6,7],[1,2,8,12,48],[6,7],[1,2,12,53],[6,7],[1,2,12,59],[6,7],[1,2,65],[6,7],[6,7]] = some c175:=by kernel_rfl
theorem aw_c177:cFunc Tryz.prog awNames.ψ Tryz.f219 [[0],[2]] = some c177:=by kernel_rfl
theorem aw_c178:cFunc Tryz.prog awNames.ψ Tryz.f220 [[0],[2]] = some c178:=by kernel_rfl
theorem aw_c179:cFunc Tryz.prog awNames.ψ Tryz.f221 [[0],[2]] = some c179:=by kernel_rfl
theorem aw_c180:cFunc Tryz.prog awNames.ψ Tryz.f222 [[0,1],[0,1,10],[0,1],[0,5,6],[0,6,26],[0,6],[0,7],[7,8],[7,8],[7,8,37],[7,8],[4]] = some c180:=by kernel_rfl
theorem aw_c181:cFunc Tryz.prog awNames.ψ Tryz.f223 [[1,2],[3]] = some c181:=by kernel_rfl
theorem aw_c187:cFunc Tryz.prog awNames.ψ Tryz.f225 [[0,1,2,3,8],[0,1,2,3,8],[0,1,2,3,8,14],[0,1,2,3,8,9],[0,1,2,3,8,9],[0,1,2,3,8,9,34],[0,1,2,3,8,9],[0,1,2,3,8,9],[0,1,2,3,8]] = some c187:=by kernel_rfl
theorem aw_c222:cFunc Tryz.prog awNames.ψ Tryz.f248 [[0],[3],[2],[2]] = some c222:=by kernel_rfl
theorem aw_c223:cFunc Tryz.prog awNames.ψ Tryz.f249 [[0,1],[6,7],[4,5],[8,9],[4,5]] = some c223:=by kernel_rfl
theorem aw_c249:cFunc Tryz.prog awNames.ψ Tryz.f257 [[0,1],[6],[4,5]] = some c249:=by kernel_rfl
theorem aw_c250:cFunc Tryz.prog awNames.ψ Tryz.f258 [[0,1],[0,1,6],[0,1,6,7],[0,1,6,7,8],[0,1,6,7,8,9],[0,1,6,7,8,9,10],[0,1,6,7,9,11],[0,1,6,7,9,11,12],[0,1,6,7,9,12,13],[0,1,7,9,12,13],[0,1,4],[4,5]] = some c250:=by kernel_rfl
theorem awKnown:Known Tryz.prog awNames awG where
  ok:=by kernel_rfl
  calls:=by
    intro x hx
    simp only [awNames,List.mem_cons,List.not_mem_nil,or_false] at hx
    rcases hx with rfl | rfl | rfl | rfl | rfl | rfl | rfl | rfl | rfl | rfl | rfl | rfl | rfl | rfl | rfl | rfl | rfl | rfl | rfl | rfl | rfl | rfl | rfl | rfl | rfl | rfl | rfl | rfl | rfl | rfl | rfl | rfl | rfl | rfl | rfl | rfl | rfl | rfl | rfl | rfl | rfl | rfl | rfl | rfl | rfl | rfl | rfl | rfl | rfl | rfl | rfl | rfl | rfl | rfl | rfl | rfl | rfl | rfl | rfl | rfl | rfl | rfl | rfl | rfl | rfl | rfl | rfl | rfl | rfl | rfl | rfl | rfl | rfl | rfl | rfl | rfl | rfl | rfl | rfl | rfl | rfl | rfl | rfl | rfl | rfl | rfl | rfl | rfl | rfl | rfl | rfl | rfl | rfl | rfl | rfl | rfl | rfl | rfl | rfl | rfl | rfl | rfl | rfl | rfl | rfl | rfl | rfl | rfl | rfl | rfl | rfl | rfl | rfl | rfl | rfl | rfl | rfl | rfl | rfl | rfl | rfl | rfl | rfl | rfl | rfl | rfl | rfl | rfl | rfl | rfl | rfl | rfl | rfl | rfl | rfl | rfl | rfl | rfl | rfl | rfl | rfl | rfl | rfl | rfl | rfl | rfl | rfl | rfl | rfl | rfl | rfl | rfl | rfl | rfl | rfl | rfl | rfl | rfl
    · exact Tryz.call5
    · exact Tryz.call6
    · exact Tryz.call7
    · exact Tryz.call11
    · exact Tryz.call18
    · exact Tryz.call19
    · exact Tryz.call20
    · exact Tryz.call21
    · exact Tryz.call22
    · exact Tryz.call23
    · exact Tryz.call24
    · exact Tryz.call25
    · exact Tryz.call26
    · exact Tryz.call27
    · exact Tryz.call28
    · exact Tryz.call29
    · exact Tryz.call32
    · exact Tryz.call33
    · exact Tryz.call34
    · exact Tryz.call35
    · exact Tryz.call41
    · exact Tryz.call42
    · exact Tryz.call43
    · exact Tryz.call47
    · exact Tryz.call48
    · exact Tryz.call49
    · exact Tryz.call50
    · exact Tryz.call51
    · exact Tryz.call52
    · exact Tryz.call53
    · exact Tryz.call54
    · exact Tryz.call55
    · exact Tryz.call56
    · exact Tryz.call57
    · exact Tryz.call58
    · exact Tryz.call59
    · exact Tryz.call60
    · exact Tryz.call61
    · exact Tryz.call62
    · exact Tryz.call63
    · exact Tryz.call65
    · exact Tryz.call66
    · exact Tryz.call68
    · exact Tryz.call69
    · exact Tryz.call72
    · exact Tryz.call76
    · exact Tryz.call77
    · exact Tryz.call78
    · exact Tryz.call79
    · exact Tryz.call80
    · exact Tryz.call92
    · exact Tryz.call93
    · exact Tryz.call94
    · exact Tryz.call95
    · exact Tryz.call96
    · exact Tryz.call97
    · exact Tryz.call98
    · exact Tryz.call99
    · exact Tryz.call100
    · exact Tryz.call101
    · exact Tryz.call102
    · exact Tryz.call103
    · exact Tryz.call104
    · exact Tryz.call105
    · exact Tryz.call106
    · exact Tryz.call107
    · exact Tryz.call108
    · exact Tryz.call109
    · exact Tryz.call110
    · exact Tryz.call111
    · exact Tryz.call112
    · exact Tryz.call113
    · exact Tryz.call114
    · exact Tryz.call115
    · exact Tryz.call116
    · exact Tryz.call117
    · exact Tryz.call118
    · exact Tryz.call119
    · exact Tryz.call120
    · exact Tryz.call121
    · exact Tryz.call122
    · exact Tryz.call123
    · exact Tryz.call124
    · exact Tryz.call125
    · exact Tryz.call126
    · exact Tryz.call127
    · exact Tryz.call128
    · exact Tryz.call129
    · exact Tryz.call130
    · exact Tryz.call131
    · exact Tryz.call132
    · exact Tryz.call133
    · exact Tryz.call134
    · exact Tryz.call135
    · exact Tryz.call136
    · exact Tryz.call137
    · exact Tryz.call138
    · exact Tryz.call139
    · exact Tryz.call140
    · exact Tryz.call141
    · exact Tryz.call142
    · exact Tryz.call143
    · exact Tryz.call144
    · exact Tryz.call145
    · exact Tryz.call147
    · exact Tryz.call151
    · exact Tryz.call152
    · exact Tryz.call160
    · exact Tryz.call163
    · exact Tryz.call164
    · exact Tryz.call165
    · exact Tryz.call166
    · exact Tryz.call167
    · exact Tryz.call168
    · exact Tryz.call169
    · exact Tryz.call170
    · exact Tryz.call171
    · exact Tryz.call172
    · exact Tryz.call173
    · exact Tryz.call174
    · exact Tryz.call175
    · exact Tryz.call176
    · exact Tryz.call177
    · exact Tryz.call178
    · exact Tryz.call179
    · exact Tryz.call180
    · exact Tryz.call181
    · exact Tryz.call182
    · exact Tryz.call183
    · exact Tryz.call184
    · exact Tryz.call185
    · exact Tryz.call186
    · exact Tryz.call187
    · exact Tryz.call188
    · exact Tryz.call189
    · exact Tryz.call190
    · exact Tryz.call191
    · exact Tryz.call192
    · exact Tryz.call193
    · exact Tryz.call194
    · exact Tryz.call195
    · exact Tryz.call199
    · exact Tryz.call200
    · exact Tryz.call202
    · exact Tryz.call216
    · exact Tryz.call217
    · exact Tryz.call218
    · exact Tryz.call219
    · exact Tryz.call220
    · exact Tryz.call221
    · exact Tryz.call222
    · exact Tryz.call223
    · exact Tryz.call224
    · exact Tryz.call225
    · exact Tryz.call248
    · exact Tryz.call249
    · exact Tryz.call257
    · exact Tryz.call258
  code:=by
    intro x hx
    simp only [awNames,List.mem_cons,List.not_mem_nil,or_false] at hx
    rcases hx with rfl | rfl | rfl | rfl | rfl | rfl | rfl | rfl | rfl | rfl | rfl | rfl | rfl | rfl | rfl | rfl | rfl | rfl | rfl | rfl | rfl | rfl | rfl | rfl | rfl | rfl | rfl | rfl | rfl | rfl | rfl | rfl | rfl | rfl | rfl | rfl | rfl | rfl | rfl | rfl | rfl | rfl | rfl | rfl | rfl | rfl | rfl | rfl | rfl | rfl | rfl | rfl | rfl | rfl | rfl | rfl | rfl | rfl | rfl | rfl | rfl | rfl | rfl | rfl | rfl | rfl | rfl | rfl | rfl | rfl | rfl | rfl | rfl | rfl | rfl | rfl | rfl | rfl | rfl | rfl | rfl | rfl | rfl | rfl | rfl | rfl | rfl | rfl | rfl | rfl | rfl | rfl | rfl | rfl | rfl | rfl | rfl | rfl | rfl | rfl | rfl | rfl | rfl | rfl | rfl | rfl | rfl | rfl | rfl | rfl | rfl | rfl | rfl | rfl | rfl | rfl | rfl | rfl | rfl | rfl | rfl | rfl | rfl | rfl | rfl | rfl | rfl | rfl | rfl | rfl | rfl | rfl | rfl | rfl | rfl | rfl | rfl | rfl | rfl | rfl | rfl | rfl | rfl | rfl | rfl | rfl | rfl | rfl | rfl | rfl | rfl | rfl | rfl | rfl | rfl | rfl | rfl | rfl
    · exact .inl ⟨_,_,Tryz.func5,aw_c333⟩
    · exact .inl ⟨_,_,Tryz.func6,aw_c270⟩
    · exact .inl ⟨_,_,Tryz.func7,aw_c335⟩
    · exact .inl ⟨_,_,Tryz.func11,aw_c340⟩
    · exact .inl ⟨_,_,Tryz.func18,aw_c21⟩
    · exact .inl ⟨_,_,Tryz.func19,aw_c35⟩
    · exact .inl ⟨_,_,Tryz.func20,aw_c338⟩
    · exact .inl ⟨_,_,Tryz.func21,aw_c74⟩
    · exact .inl ⟨_,_,Tryz.func22,aw_c274⟩
    · exact .inl ⟨_,_,Tryz.func23,aw_c275⟩
    · exact .inl ⟨_,_,Tryz.func24,aw_c341⟩
    · exact .inl ⟨_,_,Tryz.func25,aw_c342⟩
    · exact .inl ⟨_,_,Tryz.func26,aw_c343⟩
    · exact .inl ⟨_,_,Tryz.func27,aw_c344⟩
    · exact .inl ⟨_,_,Tryz.func28,aw_c345⟩
    · exact .inl ⟨_,_,Tryz.func29,aw_c346⟩
    · exact .inl ⟨_,_,Tryz.func32,aw_c79⟩
    · exact .inl ⟨_,_,Tryz.func33,aw_c349⟩
    · exact .inl ⟨_,_,Tryz.func34,aw_c350⟩
    · exact .inl ⟨_,_,Tryz.func35,aw_c351⟩
    · exact .inl ⟨_,_,Tryz.func41,aw_c347⟩
    · exact .inl ⟨_,_,Tryz.func42,aw_c348⟩
    · exact .inl ⟨_,_,Tryz.func43,aw_c100⟩
    · exact .inl ⟨_,_,Tryz.func47,aw_c19⟩
    · exact .inl ⟨_,_,Tryz.func48,aw_c20⟩
    · exact .inl ⟨_,_,Tryz.func49,aw_c71⟩
    · exact .inl ⟨_,_,Tryz.func50,aw_c72⟩
    · exact .inl ⟨_,_,Tryz.func51,aw_c73⟩
    · exact .inl ⟨_,_,Tryz.func52,aw_c75⟩
    · exact .inl ⟨_,_,Tryz.func53,aw_c76⟩
    · exact .inl ⟨_,_,Tryz.func54,aw_c77⟩
    · exact .inl ⟨_,_,Tryz.func55,aw_c30⟩
    · exact .inl ⟨_,_,Tryz.func56,aw_c133⟩
    · exact .inl ⟨_,_,Tryz.func57,aw_c134⟩
    · exact .inl ⟨_,_,Tryz.func58,aw_c280⟩
    · exact .inl ⟨_,_,Tryz.func59,aw_c281⟩
    · exact .inl ⟨_,_,Tryz.func60,aw_c282⟩
    · exact .inl ⟨_,_,Tryz.func61,aw_c295⟩
    · exact .inl ⟨_,_,Tryz.func62,aw_c352⟩
    · exact .inl ⟨_,_,Tryz.func63,aw_c31⟩
    · exact .inl ⟨_,_,Tryz.func65,aw_c33⟩
    · exact .inl ⟨_,_,Tryz.func66,aw_c38⟩
    · exact .inl ⟨_,_,Tryz.func68,aw_c36⟩
    · exact .inl ⟨_,_,Tryz.func69,aw_c59⟩
    · exact .inl ⟨_,_,Tryz.func72,aw_c63⟩
    · exact .inl ⟨_,_,Tryz.func76,aw_c142⟩
    · exact .inl ⟨_,_,Tryz.func77,aw_c143⟩
    · exact .inl ⟨_,_,Tryz.func78,aw_c144⟩
    · exact .inl ⟨_,_,Tryz.func79,aw_c145⟩
    · exact .inl ⟨_,_,Tryz.func80,aw_c146⟩
    · exact .inl ⟨_,_,Tryz.func92,aw_c298⟩
    · exact .inl ⟨_,_,Tryz.func93,aw_c291⟩
    · exact .inl ⟨_,_,Tryz.func94,aw_c296⟩
    · exact .inl ⟨_,_,Tryz.func95,aw_c297⟩
    · exact .inl ⟨_,_,Tryz.func96,aw_c60⟩
    · exact .inl ⟨_,_,Tryz.func97,aw_c113⟩
    · exact .inl ⟨_,_,Tryz.func98,aw_c114⟩
    · exact .inl ⟨_,_,Tryz.func99,aw_c116⟩
    · exact .inl ⟨_,_,Tryz.func100,aw_c28⟩
    · exact .inl ⟨_,_,Tryz.func101,aw_c29⟩
    · exact .inl ⟨_,_,Tryz.func102,aw_c32⟩
    · exact .inl ⟨_,_,Tryz.func103,aw_c34⟩
    · exact .inl ⟨_,_,Tryz.func104,aw_c125⟩
    · exact .inl ⟨_,_,Tryz.func105,aw_c126⟩
    · exact .inl ⟨_,_,Tryz.func106,aw_c127⟩
    · exact .inl ⟨_,_,Tryz.func107,aw_c128⟩
    · exact .inl ⟨_,_,Tryz.func108,aw_c129⟩
    · exact .inl ⟨_,_,Tryz.func109,aw_c130⟩
    · exact .inl ⟨_,_,Tryz.func110,aw_c131⟩
    · exact .inl ⟨_,_,Tryz.func111,aw_c102⟩
    · exact .inl ⟨_,_,Tryz.func112,aw_c52⟩
    · exact .inl ⟨_,_,Tryz.func113,aw_c132⟩
    · exact .inl ⟨_,_,Tryz.func114,aw_c56⟩
    · exact .inl ⟨_,_,Tryz.func115,aw_c135⟩
    · exact .inl ⟨_,_,Tryz.func116,aw_c136⟩
    · exact .inl ⟨_,_,Tryz.func117,aw_c137⟩
    · exact .inl ⟨_,_,Tryz.func118,aw_c138⟩
    · exact .inl ⟨_,_,Tryz.func119,aw_c139⟩
    · exact .inl ⟨_,_,Tryz.func120,aw_c57⟩
    · exact .inl ⟨_,_,Tryz.func121,aw_c58⟩
    · exact .inl ⟨_,_,Tryz.func122,aw_c184⟩
    · exact .inl ⟨_,_,Tryz.func123,aw_c353⟩
    · exact .inl ⟨_,_,Tryz.func124,aw_c354⟩
    · exact .inl ⟨_,_,Tryz.func125,aw_c355⟩
    · exact .inl ⟨_,_,Tryz.func126,aw_c356⟩
    · exact .inl ⟨_,_,Tryz.func127,aw_c61⟩
    · exact .inl ⟨_,_,Tryz.func128,aw_c62⟩
    · exact .inl ⟨_,_,Tryz.func129,aw_c64⟩
    · exact .inl ⟨_,_,Tryz.func130,aw_c65⟩
    · exact .inl ⟨_,_,Tryz.func131,aw_c66⟩
    · exact .inl ⟨_,_,Tryz.func132,aw_c53⟩
    · exact .inl ⟨_,_,Tryz.func133,aw_c67⟩
    · exact .inl ⟨_,_,Tryz.func134,aw_c68⟩
    · exact .inl ⟨_,_,Tryz.func135,aw_c69⟩
    · exact .inl ⟨_,_,Tryz.func136,aw_c70⟩
    · exact .inl ⟨_,_,Tryz.func137,aw_c78⟩
    · exact .inl ⟨_,_,Tryz.func138,aw_c104⟩
    · exact .inl ⟨_,_,Tryz.func139,aw_c105⟩
    · exact .inl ⟨_,_,Tryz.func140,aw_c106⟩
    · exact .inl ⟨_,_,Tryz.func141,aw_c107⟩
    · exact .inl ⟨_,_,Tryz.func142,aw_c108⟩
    · exact .inl ⟨_,_,Tryz.func143,aw_c109⟩
    · exact .inl ⟨_,_,Tryz.func144,aw_c110⟩
    · exact .inl ⟨_,_,Tryz.func145,aw_c147⟩
    · exact .inl ⟨_,_,Tryz.func147,aw_c101⟩
    · exact .inl ⟨_,_,Tryz.func151,aw_c197⟩
    · exact .inl ⟨_,_,Tryz.func152,aw_c198⟩
    · exact .inl ⟨_,_,Tryz.func160,aw_c141⟩
    · exact .inl ⟨_,_,Tryz.func163,aw_c299⟩
    · exact .inl ⟨_,_,Tryz.func164,aw_c300⟩
    · exact .inl ⟨_,_,Tryz.func165,aw_c111⟩
    · exact .inl ⟨_,_,Tryz.func166,aw_c112⟩
    · exact .inl ⟨_,_,Tryz.func167,aw_c174⟩
    · exact .inl ⟨_,_,Tryz.func168,aw_c176⟩
    · exact .inl ⟨_,_,Tryz.func169,aw_c51⟩
    · exact .inl ⟨_,_,Tryz.func170,aw_c54⟩
    · exact .inl ⟨_,_,Tryz.func171,aw_c55⟩
    · exact .inl ⟨_,_,Tryz.func172,aw_c182⟩
    · exact .inl ⟨_,_,Tryz.func173,aw_c183⟩
    · exact .inl ⟨_,_,Tryz.func174,aw_c103⟩
    · exact .inl ⟨_,_,Tryz.func175,aw_c98⟩
    · exact .inl ⟨_,_,Tryz.func176,aw_c185⟩
    · exact .inl ⟨_,_,Tryz.func177,aw_c186⟩
    · exact .inl ⟨_,_,Tryz.func178,aw_c357⟩
    · exact .inl ⟨_,_,Tryz.func179,aw_c358⟩
    · exact .inl ⟨_,_,Tryz.func180,aw_c359⟩
    · exact .inl ⟨_,_,Tryz.func181,aw_c360⟩
    · exact .inl ⟨_,_,Tryz.func182,aw_c115⟩
    · exact .inl ⟨_,_,Tryz.func183,aw_c117⟩
    · exact .inl ⟨_,_,Tryz.func184,aw_c118⟩
    · exact .inl ⟨_,_,Tryz.func185,aw_c119⟩
    · exact .inl ⟨_,_,Tryz.func186,aw_c120⟩
    · exact .inl ⟨_,_,Tryz.func187,aw_c99⟩
    · exact .inl ⟨_,_,Tryz.func188,aw_c121⟩
    · exact .inl ⟨_,_,Tryz.func189,aw_c122⟩
    · exact .inl ⟨_,_,Tryz.func190,aw_c123⟩
    · exact .inl ⟨_,_,Tryz.func191,aw_c124⟩
    · exact .inl ⟨_,_,Tryz.func192,aw_c140⟩
    · exact .inl ⟨_,_,Tryz.func193,aw_c171⟩
    · exact .inl ⟨_,_,Tryz.func194,aw_c172⟩
    · exact .inl ⟨_,_,Tryz.func195,aw_c173⟩
    · exact .inl ⟨_,_,Tryz.func199,aw_c229⟩
    · exact .inl ⟨_,_,Tryz.func200,aw_c230⟩
    · exact .inl ⟨_,_,Tryz.func202,aw_c196⟩
    · exact .inl ⟨_,_,Tryz.func216,aw_c195⟩
    · exact .inl ⟨_,_,Tryz.func217,aw_c301⟩
    · exact .inl ⟨_,_,Tryz.func218,aw_c175⟩
    · exact .inl ⟨_,_,Tryz.func219,aw_c177⟩
    · exact .inl ⟨_,_,Tryz.func220,aw_c178⟩
    · exact .inl ⟨_,_,Tryz.func221,aw_c179⟩
    · exact .inl ⟨_,_,Tryz.func222,aw_c180⟩
    · exact .inl ⟨_,_,Tryz.func223,aw_c181⟩
    · exact .inr ⟨0,rfl⟩
    · exact .inl ⟨_,_,Tryz.func225,aw_c187⟩
    · exact .inl ⟨_,_,Tryz.func248,aw_c222⟩
    · exact .inl ⟨_,_,Tryz.func249,aw_c223⟩
    · exact .inl ⟨_,_,Tryz.func257,aw_c249⟩
    · exact .inl ⟨_,_,Tryz.func258,aw_c250⟩
end Go.Jq
namespace Go.Jq
set_option maxRecDepth 10000 in
theorem awRun:∀ x ∈ AW_list,awG x.1 = x.2:=by
  intro x hx
  simp only [AW_list,List.mem_cons,List.not_mem_nil,or_false] at hx
  repeat' rcases hx with rfl | hx
  all_goals first | rfl | (subst hx;rfl)
theorem awAx:AxG awG:=by constructor <;> (repeat' (first | rfl | constructor))
theorem awAll:AllG awG:=by constructor <;> (repeat' (first | rfl | constructor))
theorem awComp:CompG awG:=by repeat' (first | rfl | constructor)
theorem awLaw:WeakG awG:=⟨awAx,awAll,awComp,rfl,fun _ _ k=>aw12_spec ⟨awAx,rfl,rfl,awRun⟩ k⟩
end Go.Jq
